/- Lemmas about the given model and about plain data, which the rows stand on: no statement of the program by itself. -/
import Derived.Test.YtihlealbhlgikaaDoorRpLgPart0
import Ieee.Arith
set_option linter.unusedVariables false
namespace Go.Lg
attribute [local irreducible] w64 toU64 toU8 shlU shrU shlB shrB
/-- more coarsely, by P: t is s with each P buckets one -/
structure Dn (P : Int) (s t : api_Side) : Prop where
  o : t.Offset = s.Offset / P
  l : (t.Counts.length : Int) = (s.Offset + s.Counts.length - 1) / P - s.Offset / P + 1
  su : ∀ j : Nat, su (t.Counts.take j) = su (s.Counts.take (P * (t.Offset + j) - s.Offset).toNat)
/-! ### the program's way -/
end Go.Lg
namespace Go.Lg
attribute [local irreducible] w64 toU64 toU8 shlU shrU shlB shrB
/-! ### ends that are nought -/
end Go.Lg
namespace Go.Lg
attribute [local irreducible] w64 toU64 toU8 shlU shrU shlB shrB
/-! ### right sides -/
structure RightS (s : api_Side) : Prop where
  len : s.Counts.length ≤ 160
  z : s.Counts.length = 0 → s.Offset = 0
  f : ∀ (h : 0 < s.Counts.length), s.Counts[0] ≠ 0
  e : ∀ (h : 0 < s.Counts.length), s.Counts[s.Counts.length - 1] ≠ 0
  lo : 0 < s.Counts.length → -1073741824 ≤ s.Offset
  hi : 0 < s.Counts.length → s.Offset + s.Counts.length - 1 ≤ 1073741824
theorem right_iff (s : api_Side) : sideE s = 0 ↔ RightS s := by
  unfold sideE
  by_cases h1 : 160 < s.Counts.length
  · rw [if_pos h1]; exact ⟨fun h => absurd h (by decide), fun h => by have := h.len; omega⟩
  rw [if_neg h1]
  by_cases h2 : s.Counts.length = 0
  · rw [if_pos h2]
    by_cases h3 : s.Offset = 0
    · rw [if_pos h3]; exact ⟨fun _ => ⟨by omega, fun _ => h3, fun h => by omega, fun h => by omega, fun h => by omega, fun h => by omega⟩, fun _ => rfl⟩
    · rw [if_neg h3]; exact ⟨fun h => absurd h (by decide), fun h => absurd (h.z h2) h3⟩
  rw [if_neg h2]
  by_cases h3 : s.Counts.getD 0 0 = 0 ∨ s.Counts.getD (s.Counts.length - 1) 0 = 0
  · rw [if_pos h3]
    rw [getD_lt (by omega), getD_lt (by omega)] at h3
    exact ⟨fun h => absurd h (by decide), fun h => h3.elim (fun e => absurd e (h.f (by omega))) (fun e => absurd e (h.e (by omega)))⟩
  rw [if_neg h3]
  rw [getD_lt (by omega), getD_lt (by omega)] at h3
  by_cases h5 : s.Offset < -1073741824 ∨ 1073741824 - ((s.Counts.length : Int) - 1) < s.Offset
  · rw [if_pos h5]
    exact ⟨fun h => absurd h (by decide), fun h => by have := h.lo (by omega); have := h.hi (by omega); omega⟩
  · rw [if_neg h5]
    exact ⟨fun _ => ⟨by omega, fun h => absurd h h2, fun _ => fun e => h3 (.inl e), fun _ => fun e => h3 (.inr e), fun _ => by omega, fun _ => by omega⟩, fun _ => rfl⟩
theorem RightS.off {s : api_Side} (h : RightS s) : -1100000000000 ≤ s.Offset ∧ s.Offset ≤ 1100000000000 := by
  by_cases h0 : s.Counts.length = 0
  · have := h.z h0; omega
  · have := h.lo (by omega); have := h.hi (by omega); omega
structure Good (h : api_Hist) : Prop where
  s1 : -10 ≤ h.Scale
  s2 : h.Scale ≤ 20
  p : RightS h.Pos
  n : RightS h.Neg
  t : tot h < 18446744073709551616
theorem Good.ok {h : api_Hist} (g : Good h) : OkH h := by
  have := g.p.off; have := g.n.off; have := g.p.len; have := g.n.len; have := g.s1; have := g.s2
  exact ⟨by unfold I64; omega, by unfold I64; omega, by unfold I64; omega, by omega, by omega⟩
/-- a side's image, by 2^k -/
def DnS (k : Nat) (s t : api_Side) : Prop := (s.Counts.length = 0 ∧ t = ⟨0, []⟩) ∨ (0 < s.Counts.length ∧ Dn (2 ^ k) s t)
structure DnH (k : Nat) (h g : api_Hist) : Prop where
  s : g.Scale = h.Scale - k
  z : g.Zero = h.Zero
  p : DnS k h.Pos g.Pos
  n : DnS k h.Neg g.Neg
def H0 : api_Hist := ⟨0, 0, ⟨0, []⟩, ⟨0, []⟩⟩
/-! ### which are the same -/
theorem sameSide_self {s : api_Side} (hl : s.Counts.length ≤ 1000000) : ref08_SameSide s s = some true := by
  have key : ∀ (m i : Nat), i + m = s.Counts.length → loop (ref08_SameSide_lp1 s s) (i : Int) = some (.go ()) := by
    intro m
    induction m with
    | zero =>
      intro i hi
      refine loop_brk ?_
      unfold ref08_SameSide_lp1
      rw [bifFd (by omega)]
    | succ m ih =>
      intro i hi
      rw [loop_next (s' := ((i + 1 : Nat) : Int)), ih (i + 1) (by omega)]
      unfold ref08_SameSide_lp1
      rw [bifTd (by omega), idx_nat (by omega), bind_some, bind_some, bifF (by simp), lett_eq, w64_succ (by omega)]
  have h0 : loop (ref08_SameSide_lp1 s s) 0 = _ := key s.Counts.length 0 (by omega)
  unfold ref08_SameSide
  rw [bifF (by simp), h0]; rfl
theorem same_self {h : api_Hist} (hp : h.Pos.Counts.length ≤ 1000000) (hn : h.Neg.Counts.length ≤ 1000000) : ref08_Same h h = some true := by
  unfold ref08_Same
  rw [bifT (by simp), sameSide_self hp, bind_some, bind_some, cond_true, sameSide_self hn]; rfl
/-! ### as coarse as it must be -/
end Go.Lg
namespace Go.Lg
attribute [local irreducible] w64 toU64 toU8 shlU shrU shlB shrB
/-! ### a bucket -/
def atS (s : api_Side) (i : Int) : UInt64 := if s.Offset ≤ i then s.Counts.getD (i - s.Offset).toNat 0 else 0
/-! ### answers that the document fixes -/
/-! ### the laws -/
theorem light_eq (h : api_Hist) : ref08_Light h = some (decide ((h.Pos.Counts.length : Int) ≤ 300) && decide ((h.Neg.Counts.length : Int) ≤ 300)) := rfl
structure Is (h : api_Hist) : Prop where
  s : I64 h.Scale
  po : I64 h.Pos.Offset
  no : I64 h.Neg.Offset
theorem Is.ok {h : api_Hist} (i : Is h) (a : (h.Pos.Counts.length : Int) ≤ 300) (b : (h.Neg.Counts.length : Int) ≤ 300) : OkH h := ⟨i.s, i.po, i.no, by omega, by omega⟩
theorem H0_good : Good H0 := ⟨by decide, by decide, (right_iff _).1 (by decide), (right_iff _).1 (by decide), by decide⟩
/-! ### any bucket of a side -/
end Go.Lg
namespace Go.Lg
end Go.Lg
namespace Go.Lg
attribute [local irreducible] w64 toU64 toU8 shlU shrU shlB shrB
/-! ### buckets -/
/-- none of its ends is empty -/
structure Tr (s : api_Side) : Prop where
  z : s.Counts.length = 0 → s.Offset = 0
  f : 0 < s.Counts.length → atS s s.Offset ≠ 0
  e : 0 < s.Counts.length → atS s (s.Offset + s.Counts.length - 1) ≠ 0
/-! ### two sides together -/
def loS (x y : api_Side) : Int := if x.Counts.length = 0 then y.Offset else if y.Counts.length = 0 then x.Offset else min x.Offset y.Offset
def hiS (x y : api_Side) : Int := if x.Counts.length = 0 then y.Offset + y.Counts.length else if y.Counts.length = 0 then x.Offset + x.Counts.length else max (x.Offset + x.Counts.length) (y.Offset + y.Counts.length)
structure Cov (x y : api_Side) : Prop where
  le : loS x y ≤ hiS x y
  b : -1073741824 ≤ loS x y ∧ hiS x y ≤ 1073741825
  cx : 0 < x.Counts.length → loS x y ≤ x.Offset ∧ x.Offset + x.Counts.length ≤ hiS x y
  cy : 0 < y.Counts.length → loS x y ≤ y.Offset ∧ y.Offset + y.Counts.length ≤ hiS x y
  lo : loS x y = hiS x y ∨ (0 < x.Counts.length ∧ loS x y = x.Offset) ∨ (0 < y.Counts.length ∧ loS x y = y.Offset)
  hi : loS x y = hiS x y ∨ (0 < x.Counts.length ∧ hiS x y = x.Offset + x.Counts.length) ∨ (0 < y.Counts.length ∧ hiS x y = y.Offset + y.Counts.length)
  z : loS x y = hiS x y ↔ x.Counts.length = 0 ∧ y.Counts.length = 0
end Go.Lg
namespace Go.Lg
attribute [local irreducible] w64 toU64 toU8 shlU shrU shlB shrB
/-! ### to one scale -/
structure Lev (a b x y : api_Hist) : Prop where
  ga : Good a
  gb : Good b
  dx : DnH (a.Scale - min a.Scale b.Scale).toNat a x
  dy : DnH (b.Scale - min a.Scale b.Scale).toNat b y
/-! ### put together -/
/-- a side of the sum, or that it is too wide -/
noncomputable def part (p : Option (Int × Int)) (F : Int → Int → Option (Flow (Int × List UInt64) (api_Hist × Int))) : Option (Flow (Int × List UInt64) (api_Hist × Int)) := p.bind fun (a, b) => F a b
end Go.Lg
namespace Go.Lg
attribute [local irreducible] w64 toU64 toU8 shlU shrU shlB shrB
/-! ### without empty ends -/
/-! ### the document's way to put together -/
end Go.Lg
namespace Go.Lg
attribute [local irreducible] w64 toU64 toU8 shlU shrU shlB shrB
/-! ### taken away -/
def enough (x y : api_Side) : Bool := (List.range y.Counts.length).all fun (k : Nat) => decide (y.Counts.getD k 0 ≤ atS x (y.Offset + k))
end Go.Lg
namespace Go.Lg
attribute [local irreducible] w64 toU64 toU8 shlU shrU shlB shrB
end Go.Lg
namespace Go.Lg
attribute [local irreducible] w64 toU64 toU8 shlU shrU shlB shrB
/-- how much lies below place i -/
def cum (s : api_Side) (i : Int) : Nat := su (s.Counts.take (i - s.Offset).toNat)
/-! ### what some histograms come to, at a scale -/
def sumN (f : api_Hist → Nat) (l : List api_Hist) : Nat := (l.map f).sum
def fac (x z : api_Hist) (i : Int) : Int := 2 ^ (x.Scale - z.Scale).toNat * i
structure Sums (l : List api_Hist) (z : api_Hist) : Prop where
  good : Good z
  all : ∀ x ∈ l, Good x ∧ z.Scale ≤ x.Scale
  zero : z.Zero.toNat = sumN (fun x => x.Zero.toNat) l
  pos : ∀ i, cum z.Pos i = sumN (fun x => cum x.Pos (fac x z i)) l
  neg : ∀ i, cum z.Neg i = sumN (fun x => cum x.Neg (fac x z i)) l
/-! ### what is taken away -/
end Go.Lg
namespace Go.Lg
noncomputable def num_Less (a0 : UInt64) (a1 : UInt64) : Option Bool :=
  some (fLess a0 a1)
noncomputable def num_Finite (a0 : UInt64) : Option Bool :=
 lett ((!decide ((a0 &&& 9218868437227405312) = 9218868437227405312))) fun t11 =>
 some t11
end Go.Lg
namespace Go.Lg
end Go.Lg
namespace Go.Lg
open Ieee
/-! ### to the nearest, between two to the even one -/
/-- as m, in units of 2^c, so N: at multiples of u -/
def RepU (u m N c : Nat) : Prop := ∀ t : Nat, (u * t < m ↔ u * t * 2 ^ c < N) ∧ (u * t = m ↔ u * t * 2 ^ c = N)
end Go.Lg
namespace Go.Lg
open Ieee
attribute [local irreducible] w64 toU64 toU8 shlU shrU shlB shrB
/-! ### moved right, the last digit set if something went out -/
end Go.Lg
namespace Go.Lg
open Ieee
attribute [local irreducible] w64 toU64 toU8 shlU shrU shlB shrB
end Go.Lg
namespace Go.Lg
open Ieee
attribute [local irreducible] w64 toU64 toU8 shlU shrU shlB shrB
/-! ### what bits stand for -/
/-- two sizes at unit d, at least one of them whole -/
structure Two (m n X Y d : Nat) : Prop where
  h : (m * 2 ^ d = X ∧ m % 2 = 0 ∧ RepU 2 n Y d) ∨ (n * 2 ^ d = Y ∧ n % 2 = 0 ∧ RepU 2 m X d)
end Go.Lg
namespace Go.Lg
open Ieee
attribute [local irreducible] w64 toU64 toU8 shlU shrU shlB shrB
end Go.Lg
namespace Go.Lg
open Ieee
attribute [local irreducible] w64 toU64 toU8 shlU shrU shlB shrB
end Go.Lg
namespace Go.Lg
open Ieee
attribute [local irreducible] w64 toU64 toU8 shlU shrU shlB shrB
end Go.Lg
namespace Go.Lg
open Ieee
attribute [local irreducible] w64 toU64 toU8 shlU shrU shlB shrB
/-! ### which is below -/
end Go.Lg
namespace Go.Lg
open Ieee
attribute [local irreducible] w64 toU64 toU8 shlU shrU shlB shrB
end Go.Lg
namespace Go.Lg
attribute [local irreducible] w64 toU64 toU8 shlU shrU shlB shrB
end Go.Lg
namespace Go.Lg
open Ieee
attribute [local irreducible] w64 toU64 toU8 shlU shrU shlB shrB
theorem and_exp (n : Nat) : n &&& 9218868437227405312 = fE n * 4503599627370496 := by
  have h : n &&& (2047 <<< 52) = ((n >>> 52) &&& 2047) <<< 52 := by
    apply Nat.eq_of_testBit_eq
    intro i
    simp only [Nat.testBit_and, Nat.testBit_shiftLeft, Nat.testBit_shiftRight]
    by_cases q : 52 ≤ i
    · rw [decide_eq_true q, Bool.true_and, Bool.true_and, show 52 + (i - 52) = i by omega]
    · rw [decide_eq_false q, Bool.false_and, Bool.and_false, Bool.false_and]
  have e1 : (2047 <<< 52 : Nat) = 9218868437227405312 := by decide
  have e2 : (2 : Nat) ^ 52 = 4503599627370496 := by decide
  have e3 : (2047 : Nat) = 2 ^ 11 - 1 := by decide
  rw [e1] at h
  rw [h, e3, Nat.and_two_pow_sub_one_eq_mod, Nat.shiftLeft_eq, Nat.shiftRight_eq_div_pow, e2]; rfl
theorem numFinite_eq (a : UInt64) : num_Finite a = some (decide (fE a.toNat ≠ 2047)) := by
  unfold num_Finite
  rw [lett_eq]
  congr 1
  rw [Bool.eq_iff_iff, Bool.not_eq_true', decide_eq_false_iff_not, decide_eq_true_eq, ← UInt64.toNat_inj, UInt64.toNat_and, show (9218868437227405312 : UInt64).toNat = 9218868437227405312 from rfl, and_exp]; omega
end Go.Lg
namespace Go.Lg
structure api_Pair where
  Key : List UInt8
  Val : List UInt8
  deriving DecidableEq
structure api_Point where
  Name : List UInt8
  Attrs : List api_Pair
  Kind : Int
  Temp : Int
  Mono : Bool
  Start : Int
  Time : Int
  Int_ : Int
  Re : UInt64
  Im : UInt64
  Hist : api_Hist
  Flags : Int
  deriving DecidableEq
structure api_State where
  Some : Bool
  Start : Int
  Time : Int
  Int_ : Int
  Re : UInt64
  Im : UInt64
  Hist : api_Hist
  deriving DecidableEq
structure todelta_value where
  i : Int
  re : UInt64
  im : UInt64
  h : api_Hist
  deriving DecidableEq
structure ref15_Step where
  S : api_State
  P : api_Point
  E : Int
  deriving DecidableEq
noncomputable def label_small (a0 : UInt8) : Option Bool :=
 lett (((decide (97 ≤ a0)) && (decide (a0 ≤ 122)))) fun t12 =>
 some t12
noncomputable def label_isName_lp1 (a0 : List UInt8) : Int → Option (Rnd Int Unit Bool) := fun x36 =>
 bif decide (x36 < (a0.length : Int)) then
 (idx a0 x36).bind fun e50 =>
 (label_small e50).bind fun r63 =>
 bif ((((!r63) && ((decide (e50 < 48)) || (decide (57 < e50)))) && (!decide (e50 = 95))) && (!decide (e50 = 46))) then
 outr (some false)
 else
 some (.next (w64 (x36 + 1)))
 else
 some (.brk ())
noncomputable def label_isName (a0 : List UInt8) : Option Bool :=
 (bif ((decide (a0 = [])) || (decide (32 < (a0.length : Int)))) then
 some true
 else
 (idx a0 0).bind fun c19 =>
 (label_small c19).bind fun r20 =>
 some (!r20) : Option Bool).bind fun x12 =>
 bif x12 then
 some false
 else
 flow (loop (label_isName_lp1 a0) 0) fun (_ : Unit) =>
 some true
noncomputable def label_isValue_lp1 (a0 : List UInt8) : Int → Option (Rnd Int Unit Bool) := fun x19 =>
 bif decide (x19 < (a0.length : Int)) then
 (idx a0 x19).bind fun e27 =>
 flow ((lett (decide (e27 < 33)) fun t44 =>
 bif t44 then
 some t44
 else
 lett (decide (126 < e27)) fun t46 =>
 bif t46 then
 some t46
 else
 lett (decide (e27 = 61)) fun t48 =>
 bif t48 then
 some t48
 else
 lett (decide (e27 = 59)) fun t50 =>
 bif t50 then
 some t50
 else
 lett (decide (e27 = 44)) fun t52 =>
 some t52 : Option Bool).bind fun x41 =>
 bif x41 then
 outs (outr (some false))
 else
 some (.go ())) fun (_ : Unit) =>
 some (.next (w64 (x19 + 1)))
 else
 some (.brk ())
noncomputable def label_isValue (a0 : List UInt8) : Option Bool :=
 bif ((decide (a0 = [])) || (decide (32 < (a0.length : Int)))) then
 some false
 else
 flow (loop (label_isValue_lp1 a0) 0) fun (_ : Unit) =>
 some true
noncomputable def label_Check_lp2 (e40 : api_Pair) (t89 : List api_Pair) : Int → Option (Rnd Int Unit Int) := fun x109 =>
 bif decide (x109 < (t89.length : Int)) then
 (idx t89 x109).bind fun e123 =>
 (lett (decide (e123.Key = e40.Key)) fun t151 =>
 some t151 : Option Bool).bind fun x136 =>
 bif x136 then
 outr (some x109)
 else
 some (.next (w64 (x109 + 1)))
 else
 some (.brk ())
noncomputable def label_Check_lp1 (a1 : List api_Pair) : Int → Option (Rnd Int Unit Int) := fun x26 =>
 bif decide (x26 < (a1.length : Int)) then
 (idx a1 x26).bind fun e40 =>
 (label_isName e40.Key).bind fun r61 =>
 (bif (!r61) then
 some true
 else
 (label_isValue e40.Val).bind fun r78 =>
 some (!r78) : Option Bool).bind fun x70 =>
 bif x70 then
 outr (some 3)
 else
 (slc a1 0 x26).bind fun t89 =>
 ((flow (loop (label_Check_lp2 e40 t89) 0) fun (_ : Unit) =>
 some (-1) : Option Int).bind fun x103 =>
 lett (decide (0 ≤ x103)) fun t153 =>
 some t153 : Option Bool).bind fun x97 =>
 bif x97 then
 outr (some 8)
 else
 some (.next (w64 (x26 + 1)))
 else
 some (.brk ())
noncomputable def label_Check (a0 : List UInt8) (a1 : List api_Pair) : Option Int :=
 (label_isName a0).bind fun r12 =>
 bif (!r12) then
 some 3
 else
 bif decide (4 < (a1.length : Int)) then
 some 4
 else
 flow (loop (label_Check_lp1 a1) 0) fun (_ : Unit) =>
 some 0
noncomputable def point_kinds (a0 : api_Point) : Option Bool :=
 lett (decide (a0.Kind = 3)) fun t31 =>
 bif t31 then
 lett (decide (a0.Temp = 0)) fun t33 =>
 some t33
 else
 (lett (decide (a0.Kind = 1)) fun t38 =>
 bif t38 then
 some t38
 else
 lett (decide (a0.Kind = 2)) fun t40 =>
 bif t40 then
 some t40
 else
 lett (decide (a0.Kind = 4)) fun t42 =>
 bif t42 then
 some t42
 else
 lett (decide (a0.Kind = 5)) fun t44 =>
 some t44 : Option Bool).bind fun x35 =>
 bif x35 then
 lett (((decide (a0.Temp = 1)) || (decide (a0.Temp = 2)))) fun t47 =>
 some t47
 else
 some false
noncomputable def point_sum (a0 : api_Point) : Option Bool :=
 lett (((decide (a0.Kind = 1)) || (decide (a0.Kind = 2)))) fun t32 =>
 some t32
noncomputable def point_times (a0 : api_Point) : Option Bool :=
 bif ((decide (a0.Start < 0)) || (decide (4503599627370496 < a0.Time))) then
 some false
 else
 bif decide (a0.Kind = 3) then
 lett (decide (a0.Start = a0.Time)) fun t35 =>
 some t35
 else
 lett (decide (a0.Start < a0.Time)) fun t37 =>
 some t37
noncomputable def point_bare (a0 : api_Hist) : Option Bool :=
 lett ((((((decide (a0.Scale = 0)) && (decide (a0.Zero = 0))) && (decide (a0.Pos.Offset = 0))) && (decide (a0.Neg.Offset = 0))) && (decide (w64 ((a0.Pos.Counts.length : Int) + (a0.Neg.Counts.length : Int)) = 0)))) fun t32 =>
 some t32
noncomputable def point_own (a0 : api_Point) : Option Bool :=
 lett ((((decide (a0.Kind = 2)) || (decide (a0.Kind = 3))) || (decide (a0.Kind = 5)))) fun float33 =>
 lett (((!decide (a0.Kind = 1)) && (!decide (a0.Int_ = 0)))) fun t35 =>
 bif t35 then
 bif t35 then
 some false
 else
 some true
 else
 lett (((!float33) && (!decide (a0.Re = 0)))) fun t41 =>
 bif t41 then
 bif t41 then
 some false
 else
 some true
 else
 lett (((!decide (a0.Kind = 5)) && (!decide (a0.Im = 0)))) fun t47 =>
 bif t47 then
 bif t47 then
 some false
 else
 some true
 else
 (bif (!decide (a0.Kind = 4)) then
 (point_bare a0.Hist).bind fun r61 =>
 some (!r61)
 else
 some false : Option Bool).bind fun x52 =>
 bif x52 then
 bif x52 then
 some false
 else
 some true
 else
 lett (((decide (a0.Flags < 0)) || (decide (31 < a0.Flags)))) fun t76 =>
 bif t76 then
 some false
 else
 some true
noncomputable def point_Check (a0 : api_Point) : Option Int :=
 (label_Check a0.Name a0.Attrs).bind fun r32 =>
 bif (!decide (r32 = 0)) then
 some r32
 else
 (point_kinds a0).bind fun r49 =>
 lett ((!r49)) fun t58 =>
 bif t58 then
 some 14
 else
 ((bif a0.Mono then
 (point_sum a0).bind fun r78 =>
 some (!r78)
 else
 some false : Option Bool).bind fun x68 =>
 bif x68 then
 some x68
 else
 (point_times a0).bind fun r95 =>
 lett ((!r95)) fun t104 =>
 some t104 : Option Bool).bind fun x61 =>
 bif x61 then
 some 1
 else
 (point_own a0).bind fun r115 =>
 lett ((!r115)) fun t124 =>
 bif t124 then
 some 3
 else
 (bif (a0.Mono && (decide (a0.Kind = 2))) then
 (num_Finite a0.Re).bind fun r136 =>
 some (!r136)
 else
 some false : Option Bool).bind fun x129 =>
 bif x129 then
 some 11
 else
 (bif a0.Mono then
 (bif decide (a0.Int_ < 0) then
 some true
 else
 (num_Less a0.Re (0 : UInt64)).bind fun r162 =>
 some r162 : Option Bool).bind fun x155 =>
 some x155
 else
 some false : Option Bool).bind fun x148 =>
 bif x148 then
 some 1
 else
 lett (decide (a0.Kind = 4)) fun t174 =>
 bif t174 then
 (hist_Check a0.Hist).bind fun r182 =>
 some r182
 else
 some 0
def slices_Clone_api_Pair_api_Pair (a0 : List api_Pair) : Option (List api_Pair) := app [] a0
noncomputable def point_Clone (a0 : api_Point) : Option api_Point :=
 (slices_Clone_api_Pair_api_Pair a0.Attrs).bind fun r39 =>
 (hist_Clone a0.Hist).bind fun r67 =>
 some (api_Point.mk a0.Name r39 a0.Kind a0.Temp a0.Mono a0.Start a0.Time a0.Int_ a0.Re a0.Im r67 a0.Flags)
noncomputable def ref11_Light_lp1 (a0 : List api_Pair) : Int → Option (Rnd Int Unit Bool) := fun i14 =>
 bif decide (i14 < (a0.length : Int)) then
 (idx a0 i14).bind fun e22 =>
 (bif decide (100 < (e22.Key.length : Int)) then
 some true
 else
 (idx a0 i14).bind fun e38 =>
 some (decide (100 < (e38.Val.length : Int))) : Option Bool).bind fun x34 =>
 bif x34 then
 outr (some false)
 else
 lett (w64 (i14 + 1)) fun i52 =>
 some (.next i52)
 else
 some (.brk ())
noncomputable def ref11_Light (a0 : List api_Pair) : Option Bool :=
 bif decide (20 < (a0.length : Int)) then
 some false
 else
 flow (loop (ref11_Light_lp1 a0) 0) fun (_ : Unit) =>
 some true
noncomputable def ref12_Light (a0 : api_Point) : Option Bool :=
 (bif decide ((a0.Name.length : Int) ≤ 100) then
 (ref11_Light a0.Attrs).bind fun r39 =>
 some r39
 else
 some false : Option Bool).bind fun x31 =>
 (bif x31 then
 (ref08_Light a0.Hist).bind fun r60 =>
 some r60
 else
 some false : Option Bool).bind fun x48 =>
 some x48
noncomputable def ref11_Same_lp1 (a0 : List api_Pair) (a1 : List api_Pair) : Int → Option (Rnd Int Unit Bool) := fun i15 =>
 bif decide (i15 < (a0.length : Int)) then
 (idx a0 i15).bind fun e32 =>
 (idx a1 i15).bind fun e45 =>
 bif (!(decide (e32.Key = e45.Key) && (decide (e32.Val = e45.Val) && true))) then
 outr (some false)
 else
 lett (w64 (i15 + 1)) fun i61 =>
 some (.next i61)
 else
 some (.brk ())
noncomputable def ref11_Same (a0 : List api_Pair) (a1 : List api_Pair) : Option Bool :=
 bif (!decide ((a0.length : Int) = (a1.length : Int))) then
 some false
 else
 flow (loop (ref11_Same_lp1 a0 a1) 0) fun (_ : Unit) =>
 some true
noncomputable def ref11_Sorted_lp2 (a0 : List api_Pair) (out12 : List api_Pair) (i15 : Int) : Int → Option (Rnd Int Int Int) := fun k40 =>
 (bif decide (0 < k40) then
 (idx out12 (w64 (k40 - 1))).bind fun e79 =>
 (idx a0 i15).bind fun e107 =>
 some (sLess e107.Key e79.Key)
 else
 some false).bind fun x65 =>
 bif x65 then
 lett (w64 (k40 - 1)) fun k141 =>
 some (.next k141)
 else
 some (.brk k40)
noncomputable def ref11_Sorted_lp1 (a0 : List api_Pair) : (List api_Pair × Int) → Option (Rnd (List api_Pair × Int) (List api_Pair) (List api_Pair)) := fun (out12, i15) =>
 bif decide (i15 < (a0.length : Int)) then
 lett ((out12.length : Int)) fun k33 =>
 (flow (loop (ref11_Sorted_lp2 a0 out12 i15) k33) fun k44 =>
 some k44 : Option Int).bind fun k34 =>
 (slc out12 0 k34).bind fun t142 =>
 (app [] t142).bind fun xs146 =>
 (idx a0 i15).bind fun e153 =>
 (app xs146 [e153]).bind fun xs172 =>
 (slc out12 k34 (out12.length : Int)).bind fun t179 =>
 (app xs172 t179).bind fun xs189 =>
 lett (w64 (i15 + 1)) fun i196 =>
 some (.next (xs189, i196))
 else
 some (.brk out12)
noncomputable def ref11_Sorted (a0 : List api_Pair) : Option (List api_Pair) :=
 flow (loop (ref11_Sorted_lp1 a0) ([], 0)) fun out19 =>
 some out19
noncomputable def ref12_Same (a0 : api_Point) (a1 : api_Point) : Option Bool :=
 (bif (!decide (a0.Name = a1.Name)) then
 some true
 else
 (ref11_Sorted a0.Attrs).bind fun r110 =>
 (ref11_Sorted a1.Attrs).bind fun r125 =>
 (ref11_Same r110 r125).bind fun r138 =>
 some (!r138)).bind fun x79 =>
 bif x79 then
 some false
 else
 bif (((((!decide (a0.Kind = a1.Kind)) || (!decide (a0.Temp = a1.Temp))) || (!decide (a0.Mono = a1.Mono))) || (!decide (a0.Start = a1.Start))) || (!decide (a0.Time = a1.Time))) then
 some false
 else
 (bif ((((decide (a0.Int_ = a1.Int_)) && (decide (a0.Re = a1.Re))) && (decide (a0.Im = a1.Im))) && (decide (a0.Flags = a1.Flags))) then
 (ref08_Same a0.Hist a1.Hist).bind fun r190 =>
 some r190
 else
 some false : Option Bool).bind fun x169 =>
 some x169
def rep_api_Pair : Rep api_Pair := Rep.via (Rep.pair Rep.s Rep.s) fun d => (d.Key, d.Val)
theorem flat_api_Pair : Flat rep_api_Pair := Flat.via (Flat.pair Flat.s Flat.s) _
end Go.Lg
namespace Go.Lg
attribute [local irreducible] w64 toU64 toU8 shlU shrU shlB shrB
/-! ### a loop that looks at one after the other -/
def firstE {ρ : Type} (e : Nat → Option ρ) : Nat → Nat → Option ρ
  | 0, _ => none
  | m + 1, i => match e i with
    | some r => some r
    | none => firstE e m (i + 1)
def rndE {ρ : Type} (i : Nat) : Option ρ → Rnd Int Unit ρ
  | some r => .out r
  | none => .next ((i + 1 : Nat) : Int)
def flowE {ρ : Type} : Option ρ → Flow Unit ρ
  | some r => .out r
  | none => .go ()
theorem scan_loop {ρ : Type} {f : Int → Option (Rnd Int Unit ρ)} {n : Nat} (e : Nat → Option ρ) (hs : ∀ i : Nat, i < n → f (i : Int) = some (rndE i (e i))) (he : f (n : Int) = some (.brk ())) : ∀ m i : Nat, i + m = n → loop f (i : Int) = some (flowE (firstE e m i))
  | 0, i, h => by
    have : i = n := by omega
    subst this
    rw [loop_brk he]; rfl
  | m + 1, i, h => by
    have h1 := hs i (by omega)
    unfold firstE
    cases hc : e i with
    | some r => rw [hc] at h1; rw [loop_out h1]; rfl
    | none => rw [hc] at h1; rw [loop_next h1]; exact scan_loop e hs he m (i + 1) (by omega)
theorem scan0 {ρ : Type} {f : Int → Option (Rnd Int Unit ρ)} {n : Nat} (e : Nat → Option ρ) (hs : ∀ i : Nat, i < n → f (i : Int) = some (rndE i (e i))) (he : f (n : Int) = some (.brk ())) : loop f 0 = some (flowE (firstE e n 0)) :=
  scan_loop e hs he n 0 (by omega)
theorem firstE_none {ρ : Type} {e : Nat → Option ρ} : ∀ m i, firstE e m i = none ↔ ∀ j, i ≤ j → j < i + m → e j = none
  | 0, i => ⟨fun _ j h1 h2 => by omega, fun _ => rfl⟩
  | m + 1, i => by
    unfold firstE
    cases hc : e i with
    | some r =>
      refine ⟨fun h => by simp at h, fun h => ?_⟩
      rw [h i (Nat.le_refl _) (by omega)] at hc; cases hc
    | none =>
      rw [show (match (none : Option ρ) with | some r => some r | none => firstE e m (i + 1)) = firstE e m (i + 1) from rfl, firstE_none m (i + 1)]
      constructor
      · intro h j h1 h2
        by_cases e1 : j = i
        · subst e1; exact hc
        · exact h j (by omega) (by omega)
      · intro h j h1 h2
        exact h j (by omega) (by omega)
def orE {ρ : Type} (o : Option ρ) (d : Option ρ) : Option ρ := match o with
  | some r => some r
  | none => d
theorem flow_E {ρ : Type} (o : Option ρ) (F : Unit → Option ρ) : flow (some (flowE o)) F = orE o (F ()) := by cases o <;> rfl
/-! ### a name, a value -/
def low (c : UInt8) : Bool := decide (97 ≤ c) && decide (c ≤ 122)
def oth (c : UInt8) : Bool := ((decide (48 ≤ c) && decide (c ≤ 57)) || decide (c = 95)) || decide (c = 46)
def bad (c : UInt8) : Bool := (((decide (c ≤ 32) || decide (127 ≤ c)) || decide (c = 61)) || decide (c = 59)) || decide (c = 44)
def nameOk (l : List UInt8) : Bool := decide (0 < l.length) && decide (l.length ≤ 32) && low (l.getD 0 0) && l.all fun c => low c || oth c
def valueOk (l : List UInt8) : Bool := decide (0 < l.length) && decide (l.length ≤ 32) && l.all fun c => !bad c
theorem all_first {α : Type} {l : List α} {p : α → Bool} {e : Nat → Option Bool} (h : ∀ i (hi : i < l.length), e i = if p l[i] then none else some false) : orE (firstE e l.length 0) (some true) = some (l.all p) := by
  by_cases ha : l.all p = true
  · have : firstE e l.length 0 = none := (firstE_none _ _).2 fun j _ hj => by
      have hj' : j < l.length := by omega
      rw [h j hj', if_pos (List.all_eq_true.1 ha _ (List.getElem_mem hj'))]
    rw [this, ha]; rfl
  · have h2 : firstE e l.length 0 ≠ none := fun hn => ha (List.all_eq_true.2 fun c hc => by
      obtain ⟨j, hj, rfl⟩ := List.getElem_of_mem hc
      have := (firstE_none _ _).1 hn j (by omega) (by omega)
      rw [h j hj] at this
      by_cases hp : p l[j] = true
      · exact hp
      · rw [if_neg hp] at this; cases this)
    have h3 : ∀ m i, i + m ≤ l.length → firstE e m i = none ∨ firstE e m i = some false := by
      intro m
      induction m with
      | zero => intro i _; exact .inl rfl
      | succ m ih =>
        intro i hi
        unfold firstE
        rw [h i (by omega)]
        by_cases hp : p (l[i]'(by omega)) = true
        · rw [if_pos hp]; exact ih (i + 1) (by omega)
        · rw [if_neg hp]; exact .inr rfl
    rcases h3 l.length 0 (by omega) with h4 | h4
    · exact absurd h4 h2
    · rw [h4]; simp at ha; simp [orE, ha]
theorem isName_eq (l : List UInt8) : label_isName l = some (nameOk l) := by
  unfold label_isName nameOk
  by_cases h : l.length = 0 ∨ 32 < l.length
  · rw [bifT (by
      rw [Bool.or_eq_true, decide_eq_true_eq, decide_eq_true_eq]
      rcases h with h | h
      · exact .inl (List.eq_nil_of_length_eq_zero h)
      · exact .inr (by omega)), bind_some, cond_true]
    rcases h with h | h
    · rw [decide_eq_false (p := 0 < l.length) (by omega)]; rfl
    · rw [decide_eq_false (p := l.length ≤ 32) (by omega), Bool.and_false]; rfl
  · have h0 : 0 < l.length := by omega
    rw [bifF (by
      rw [Bool.or_eq_false_iff, decide_eq_false_iff_not, decide_eq_false_iff_not]
      exact ⟨fun e => by rw [e] at h0; simp at h0, by omega⟩), idx_0 h0, bind_some]
    unfold label_small
    rw [lett_eq, bind_some, bind_some, decide_eq_true h0, decide_eq_true (p := l.length ≤ 32) (by omega), getD_lt h0]
    change (bif !low l[0] then _ else _) = _
    cases hl : low l[0] with
    | false => simp
    | true =>
      rw [Bool.not_true, cond_false, scan0 (n := l.length) (fun i => if (low (l.getD i 0) || oth (l.getD i 0)) = true then none else some false), flow_E, all_first (p := fun c => low c || oth c)]
      · simp
      · intro i hi; rw [getD_lt hi]
      · intro i hi
        unfold label_isName_lp1 label_small
        rw [bifTd (by omega), idx_nat hi, bind_some, lett_eq, bind_some, getD_lt hi]
        generalize l[i] = c
        have e : ((((!(decide (97 ≤ c) && decide (c ≤ 122))) && ((decide (c < 48)) || (decide (57 < c)))) && (!decide (c = 95))) && (!decide (c = 46))) = !(low c || oth c) := by
          unfold low oth
          have e1 : decide (c < 48) = !decide (48 ≤ c) := by simp [UInt8.lt_iff_toNat_lt, UInt8.le_iff_toNat_le, ← decide_not]
          have e2 : decide (57 < c) = !decide (c ≤ 57) := by simp [UInt8.lt_iff_toNat_lt, UInt8.le_iff_toNat_le, ← decide_not]
          rw [e1, e2]
          cases decide (97 ≤ c) <;> cases decide (c ≤ 122) <;> cases decide (48 ≤ c) <;> cases decide (c ≤ 57) <;> cases decide (c = 95) <;> cases decide (c = 46) <;> rfl
        rw [e]
        cases (low c || oth c)
        · rfl
        · rw [Bool.not_true, cond_false, w64_succ (by omega), if_pos rfl]; rfl
      · unfold label_isName_lp1
        rw [bifFd (by omega)]
theorem isValue_eq (l : List UInt8) : label_isValue l = some (valueOk l) := by
  unfold label_isValue valueOk
  by_cases h : l.length = 0 ∨ 32 < l.length
  · rw [bifT (by
      rw [Bool.or_eq_true, decide_eq_true_eq, decide_eq_true_eq]
      rcases h with h | h
      · exact .inl (List.eq_nil_of_length_eq_zero h)
      · exact .inr (by omega))]
    rcases h with h | h
    · rw [decide_eq_false (p := 0 < l.length) (by omega)]; rfl
    · rw [decide_eq_false (p := l.length ≤ 32) (by omega), Bool.and_false]; rfl
  · have h0 : 0 < l.length := by omega
    rw [bifF (by
      rw [Bool.or_eq_false_iff, decide_eq_false_iff_not, decide_eq_false_iff_not]
      exact ⟨fun e => by rw [e] at h0; simp at h0, by omega⟩), decide_eq_true h0, decide_eq_true (p := l.length ≤ 32) (by omega),
      scan0 (n := l.length) (fun i => if (!bad (l.getD i 0)) = true then none else some false), flow_E, all_first (p := fun c => !bad c)]
    · simp
    · intro i hi; rw [getD_lt hi]
    · intro i hi
      unfold label_isValue_lp1
      rw [bifTd (by omega), idx_nat hi, bind_some, getD_lt hi]
      generalize l[i] = c
      have e : (lett (decide (c < 33)) fun t44 =>
 bif t44 then
 some t44
 else
 lett (decide (126 < c)) fun t46 =>
 bif t46 then
 some t46
 else
 lett (decide (c = 61)) fun t48 =>
 bif t48 then
 some t48
 else
 lett (decide (c = 59)) fun t50 =>
 bif t50 then
 some t50
 else
 lett (decide (c = 44)) fun t52 =>
 some t52 : Option Bool) = some (bad c) := by
        unfold bad
        have e1 : decide (c < 33) = decide (c ≤ 32) := by rw [decide_eq_decide, UInt8.lt_iff_toNat_lt, UInt8.le_iff_toNat_le]; exact Nat.lt_succ_iff
        have e2 : decide (126 < c) = decide (127 ≤ c) := by rw [decide_eq_decide, UInt8.lt_iff_toNat_lt, UInt8.le_iff_toNat_le]; exact Iff.rfl
        rw [lett_eq, lett_eq, lett_eq, lett_eq, lett_eq, e1, e2]
        cases decide (c ≤ 32) <;> cases decide (127 ≤ c) <;> cases decide (c = 61) <;> cases decide (c = 59) <;> cases decide (c = 44) <;> rfl
      rw [e, bind_some]
      cases bad c
      · rw [cond_false, flow_go, w64_succ (by omega)]; rfl
      · rfl
    · unfold label_isValue_lp1
      rw [bifFd (by omega)]
end Go.Lg
namespace Go.Lg
attribute [local irreducible] w64 toU64 toU8 shlU shrU shlB shrB
def P0 : api_Pair := ⟨[], []⟩
def dupB (l : List api_Pair) (i : Nat) : Bool := decide (∃ k, k < i ∧ (l.getD k P0).Key = (l.getD i P0).Key)
/-- what is wrong with the i-th attribute -/
def pairE (l : List api_Pair) (i : Nat) : Option Int :=
  if (nameOk (l.getD i P0).Key && valueOk (l.getD i P0).Val) = true then (if dupB l i = true then some 8 else none) else some 3
def labelE (n : List UInt8) (l : List api_Pair) : Int :=
  if nameOk n = false then 3 else if 4 < l.length then 4 else (firstE (pairE l) l.length 0).getD 0
theorem getD_take {α : Type} (l : List α) {k i : Nat} (d : α) (h : k < i) : (l.take i).getD k d = l.getD k d := by
  simp only [List.getD_eq_getElem?_getD, List.getElem?_take, if_pos h]
theorem first_ex {ρ : Type} {e : Nat → Option ρ} : ∀ m i, firstE e m i ≠ none → ∃ j, i ≤ j ∧ j < i + m ∧ firstE e m i = e j ∧ e j ≠ none
  | 0, i, h => absurd rfl h
  | m + 1, i, h => by
    unfold firstE at *
    cases hc : e i with
    | some r => exact ⟨i, Nat.le_refl _, by omega, by rw [hc], by rw [hc]; simp⟩
    | none =>
      rw [hc] at h
      obtain ⟨j, h1, h2, h3, h4⟩ := first_ex m (i + 1) h
      exact ⟨j, by omega, by omega, h3, h4⟩
theorem dup_lp {e40 : api_Pair} {t : List api_Pair} (ht : t.length ≤ 1000) :
    ((flow (loop (label_Check_lp2 e40 t) 0) fun (_ : Unit) => some (-1) : Option Int).bind fun x103 =>
 lett (decide (0 ≤ x103)) fun t153 => some t153) = some (decide (∃ k, k < t.length ∧ (t.getD k P0).Key = e40.Key)) := by
  have hs : ∀ i : Nat, i < t.length → label_Check_lp2 e40 t (i : Int) = some (rndE i (if (t.getD i P0).Key = e40.Key then some (i : Int) else none)) := by
    intro i hi
    unfold label_Check_lp2
    rw [bifTd (by omega), idx_nat hi, bind_some, lett_eq, bind_some, getD_lt hi]
    by_cases h : t[i].Key = e40.Key
    · rw [bifTd h, if_pos h]; rfl
    · rw [bifFd h, if_neg h, w64_succ (by omega)]; rfl
  rw [scan0 (n := t.length) _ hs (by unfold label_Check_lp2; rw [bifFd (by omega)]), flow_E]
  by_cases hc : firstE (fun i => if (t.getD i P0).Key = e40.Key then some (i : Int) else none) t.length 0 = none
  · rw [hc]
    unfold orE
    dsimp only
    rw [bind_some, lett_eq, decide_eq_false (p := (0 : Int) ≤ -1) (by omega), decide_eq_false]
    rintro ⟨k, hk, he⟩
    have := (firstE_none _ _).1 hc k (by omega) (by omega)
    rw [if_pos he] at this; cases this
  · obtain ⟨j, h1, h2, h3, h4⟩ := first_ex _ _ hc
    rw [h3]
    by_cases hk : (t.getD j P0).Key = e40.Key
    · rw [if_pos hk]
      unfold orE
      dsimp only
      rw [bind_some, lett_eq, decide_eq_true (p := (0 : Int) ≤ (j : Int)) (by omega), decide_eq_true ⟨j, by omega, hk⟩]
    · rw [if_neg hk] at h4; exact absurd rfl h4
theorem label_eq (n : List UInt8) (l : List api_Pair) : label_Check n l = some (labelE n l) := by
  unfold label_Check labelE
  rw [isName_eq, bind_some]
  cases hn : nameOk n with
  | false => rfl
  | true =>
    rw [Bool.not_true, cond_false, if_neg (by simp)]
    by_cases h4 : 4 < l.length
    · rw [bifTd (by omega), if_pos h4]
    · rw [bifFd (by omega), if_neg h4]
      have hs : ∀ i : Nat, i < l.length → label_Check_lp1 l (i : Int) = some (rndE i (pairE l i)) := by
        intro i hi
        have htl : (l.take i).length = i := by rw [List.length_take]; omega
        unfold label_Check_lp1 pairE
        rw [bifTd (by omega), idx_nat hi, bind_some, isName_eq, bind_some, isValue_eq, bind_some, getD_lt hi]
        have e1 : (bif (!nameOk l[i].Key) then some true else some (!valueOk l[i].Val) : Option Bool) = some (!(nameOk l[i].Key && valueOk l[i].Val)) := by cases nameOk l[i].Key <;> rfl
        rw [e1, bind_some]
        cases hp : (nameOk l[i].Key && valueOk l[i].Val) with
        | false => rfl
        | true =>
          have hsl : slc l 0 (i : Int) = some (l.take i) := by rw [show (0 : Int) = ((0 : Nat) : Int) from rfl, slc_nat (by omega) (by omega), List.drop_zero]
          rw [Bool.not_true, cond_false, hsl, bind_some, dup_lp (by omega), bind_some, if_pos rfl]
          have e2 : decide (∃ k, k < (l.take i).length ∧ ((l.take i).getD k P0).Key = l[i].Key) = dupB l i := by
            unfold dupB
            rw [decide_eq_decide, htl]
            constructor
            · rintro ⟨k, h1, h2⟩; exact ⟨k, h1, by rw [getD_take l P0 h1] at h2; rw [h2, getD_lt hi]⟩
            · rintro ⟨k, h1, h2⟩; exact ⟨k, h1, by rw [getD_take l P0 h1]; rw [h2, getD_lt hi]⟩
          rw [e2]
          cases dupB l i
          · rw [cond_false, w64_succ (by omega)]; rfl
          · rfl
      rw [scan0 (n := l.length) _ hs (by unfold label_Check_lp1; rw [bifFd (by omega)]), flow_E]
      cases firstE (pairE l) l.length 0 <;> rfl
end Go.Lg
namespace Go.Lg
attribute [local irreducible] w64 toU64 toU8 shlU shrU shlB shrB
theorem bare_eq {h : api_Hist} (hp : h.Pos.Counts.length ≤ 1000000) (hn : h.Neg.Counts.length ≤ 1000000) : point_bare h = some (decide (h = H0)) := by
  unfold point_bare
  rw [lett_eq, w64_id (by omega) (by omega)]
  congr 1
  rw [Bool.eq_iff_iff]
  simp only [Bool.and_eq_true, decide_eq_true_eq]
  constructor
  · rintro ⟨⟨⟨⟨h1, h2⟩, h3⟩, h4⟩, h5⟩
    obtain ⟨sc, z, ⟨po, pc⟩, ⟨no, nc⟩⟩ := h
    dsimp only at *
    have e1 : pc = [] := List.eq_nil_of_length_eq_zero (by omega)
    have e2 : nc = [] := List.eq_nil_of_length_eq_zero (by omega)
    subst h1 h2 h3 h4 e1 e2; rfl
  · rintro rfl; exact ⟨⟨⟨⟨rfl, rfl⟩, rfl⟩, rfl⟩, rfl⟩
/-- sorted: some list as long -/
theorem sorted_lp2 (a0 out : List api_Pair) (i : Nat) (hi : i < a0.length) : ∀ k : Nat, k ≤ out.length → k ≤ 1000 → ∃ j : Nat, j ≤ out.length ∧ loop (ref11_Sorted_lp2 a0 out (i : Int)) (k : Int) = some (.go (j : Int))
  | 0, h, _ => ⟨0, by omega, loop_brk (by unfold ref11_Sorted_lp2; rw [bifFd (by omega), bind_some, cond_false])⟩
  | k + 1, h, hk => by
    have h1 : w64 (((k + 1 : Nat) : Int) - 1) = (k : Int) := by rw [w64_id] <;> omega
    have hk2 : k < out.length := by omega
    cases hc : sLess a0[i].Key out[k].Key with
    | true =>
      obtain ⟨j, j1, j2⟩ := sorted_lp2 a0 out i hi k (by omega) (by omega)
      refine ⟨j, j1, ?_⟩
      rw [← j2]
      refine loop_next ?_
      unfold ref11_Sorted_lp2
      rw [bifTd (by omega), h1, idx_nat hk2, bind_some, idx_nat hi, bind_some, bind_some, hc, cond_true, lett_eq]
    | false =>
      refine ⟨k + 1, h, loop_brk ?_⟩
      unfold ref11_Sorted_lp2
      rw [bifTd (by omega), h1, idx_nat hk2, bind_some, idx_nat hi, bind_some, bind_some, hc, cond_false]
theorem sorted_lp1 (a0 : List api_Pair) (hl : a0.length ≤ 100) : ∀ (m i : Nat) (out : List api_Pair), i + m = a0.length → out.length = i → ∃ s, loop (ref11_Sorted_lp1 a0) (out, (i : Int)) = some (.go s) ∧ s.length = a0.length
  | 0, i, out, h, ho => ⟨out, loop_brk (by unfold ref11_Sorted_lp1; dsimp only; rw [bifFd (by omega)]), by omega⟩
  | m + 1, i, out, h, ho => by
    have hi : i < a0.length := by omega
    obtain ⟨j, j1, j2⟩ := sorted_lp2 a0 out i hi out.length (Nat.le_refl _) (by omega)
    obtain ⟨s, s1, s2⟩ := sorted_lp1 a0 hl m (i + 1) (out.take j ++ [a0[i]] ++ out.drop j) (by omega) (by simp only [List.length_append, List.length_take, List.length_drop, List.length_cons, List.length_nil]; omega)
    refine ⟨s, ?_, s2⟩
    rw [← s1]
    refine loop_next ?_
    unfold ref11_Sorted_lp1
    dsimp only
    have hsl : slc out 0 (j : Int) = some (out.take j) := by rw [show (0 : Int) = ((0 : Nat) : Int) from rfl, slc_nat (by omega) j1, List.drop_zero]
    have hs2 : slc out (j : Int) (out.length : Int) = some (out.drop j) := by rw [slc_nat j1 (Nat.le_refl _), List.take_length]
    rw [bifTd (by omega), lett_eq, j2, flow_go, bind_some, hsl, bind_some, app_ok (by simp only [List.length_nil, List.length_take]; omega), bind_some, List.nil_append, idx_nat hi, bind_some, app_ok (by simp only [List.length_take, List.length_cons, List.length_nil]; omega), bind_some, hs2, bind_some,
      app_ok (by simp only [List.length_append, List.length_take, List.length_drop, List.length_cons, List.length_nil]; omega), bind_some, lett_eq, w64_succ (by omega)]
theorem sorted_some (a0 : List api_Pair) (hl : a0.length ≤ 100) : ∃ s, ref11_Sorted a0 = some s ∧ s.length = a0.length := by
  obtain ⟨s, s1, s2⟩ := sorted_lp1 a0 hl a0.length 0 [] (by omega) rfl
  have s1' : loop (ref11_Sorted_lp1 a0) ([], 0) = _ := s1
  refine ⟨s, ?_, s2⟩
  unfold ref11_Sorted
  rw [s1', flow_go]
theorem samePairs_self (l : List api_Pair) (hl : l.length ≤ 1000) : ref11_Same l l = some true := by
  unfold ref11_Same
  rw [bifF (by simp), scan0 (n := l.length) (fun _ => none) (fun i hi => by
    unfold ref11_Same_lp1
    rw [bifTd (by omega), idx_nat hi, bind_some, bind_some, bifF (by simp), lett_eq, w64_succ (by omega)]; rfl) (by unfold ref11_Same_lp1; rw [bifFd (by omega)]), flow_E,
    (firstE_none _ _).2 (fun _ _ _ => rfl)]; rfl
theorem sameP_self {p : api_Point} (ha : p.Attrs.length ≤ 100) (hp : p.Hist.Pos.Counts.length ≤ 1000000) (hn : p.Hist.Neg.Counts.length ≤ 1000000) : ref12_Same p p = some true := by
  obtain ⟨s, s1, s2⟩ := sorted_some p.Attrs ha
  unfold ref12_Same
  rw [bifF (by simp), s1, bind_some, bind_some, samePairs_self s (by omega), bind_some, bind_some, bifF (by rfl), bifF (by simp), bifT (by simp), same_self hp hn, bind_some, bind_some]
end Go.Lg
namespace Go.Lg
attribute [local irreducible] w64 toU64 toU8 shlU shrU shlB shrB
abbrev KindP (p : api_Point) : Prop := (p.Kind = 3 ∧ p.Temp = 0) ∨ ((p.Kind = 1 ∨ p.Kind = 2 ∨ p.Kind = 4 ∨ p.Kind = 5) ∧ (p.Temp = 1 ∨ p.Temp = 2))
abbrev TimeP (p : api_Point) : Prop := (0 ≤ p.Start ∧ p.Time ≤ 4503599627370496) ∧ ((p.Kind = 3 ∧ p.Start = p.Time) ∨ (p.Kind ≠ 3 ∧ p.Start < p.Time))
abbrev OwnP (p : api_Point) : Prop := (p.Kind = 1 ∨ p.Int_ = 0) ∧ ((p.Kind = 2 ∨ p.Kind = 3 ∨ p.Kind = 5) ∨ p.Re = 0) ∧ (p.Kind = 5 ∨ p.Im = 0) ∧ (p.Kind = 4 ∨ p.Hist = H0) ∧ (0 ≤ p.Flags ∧ p.Flags ≤ 31)
def finB (a : UInt64) : Bool := decide (fE a.toNat ≠ 2047)
/-- what is wrong with a point first -/
def chkE (p : api_Point) : Int :=
  if labelE p.Name p.Attrs ≠ 0 then labelE p.Name p.Attrs
  else if ¬ KindP p then 14
  else if (p.Mono = true ∧ ¬ (p.Kind = 1 ∨ p.Kind = 2)) ∨ ¬ TimeP p then 1
  else if ¬ OwnP p then 3
  else if (p.Mono = true ∧ p.Kind = 2) ∧ finB p.Re = false then 11
  else if p.Mono = true ∧ (p.Int_ < 0 ∨ fLess p.Re 0 = true) then 1
  else if p.Kind = 4 then histE p.Hist else 0
structure OkP (p : api_Point) : Prop where
  h : OkH p.Hist
theorem kinds_eq (p : api_Point) : point_kinds p = some (decide (KindP p)) := by
  unfold point_kinds KindP
  simp only [lett_eq]
  by_cases h3 : p.Kind = 3
  · simp [h3]
  · by_cases h1 : p.Kind = 1
    · simp [h1]
    · by_cases h2 : p.Kind = 2
      · simp [h2]
      · by_cases h4 : p.Kind = 4
        · simp [h4]
        · by_cases h5 : p.Kind = 5
          · simp [h5]
          · simp [h1, h2, h3, h4, h5]
theorem times_eq (p : api_Point) : point_times p = some (decide (TimeP p)) := by
  unfold point_times TimeP
  simp only [lett_eq]
  by_cases h : p.Start < 0 ∨ 4503599627370496 < p.Time
  · rw [bifT (by simpa using h), decide_eq_false (by omega)]
  · rw [bifF (by simpa using h)]
    by_cases h3 : p.Kind = 3
    · rw [bifTd h3]; congr 1; rw [decide_eq_decide]; omega
    · rw [bifFd h3]; congr 1; rw [decide_eq_decide]; omega
theorem own_eq {p : api_Point} (o : OkH p.Hist) : point_own p = some (decide (OwnP p)) := by
  unfold point_own OwnP
  simp only [lett_eq]
  rw [bare_eq o.pl o.nl, bind_some]
  by_cases h1 : p.Kind = 1 ∨ p.Int_ = 0
  · rw [bifF (by rcases h1 with h | h <;> simp [h])]
    by_cases h2 : (p.Kind = 2 ∨ p.Kind = 3 ∨ p.Kind = 5) ∨ p.Re = 0
    · rw [bifF (by rcases h2 with (h | h | h) | h <;> simp [h])]
      by_cases h3 : p.Kind = 5 ∨ p.Im = 0
      · rw [bifF (by rcases h3 with h | h <;> simp [h])]
        by_cases h4 : p.Kind = 4 ∨ p.Hist = H0
        · have e : (bif (!decide (p.Kind = 4)) then some (!decide (p.Hist = H0)) else some false : Option Bool) = some false := by
            rcases h4 with h | h
            · rw [bifF (by rw [decide_eq_true h]; rfl)]
            · rw [decide_eq_true h]; cases (!decide (p.Kind = 4)) <;> rfl
          rw [e, bind_some, cond_false]
          by_cases h5 : p.Flags < 0 ∨ 31 < p.Flags
          · rw [bifT (by simpa using h5), decide_eq_false (by omega)]
          · rw [bifF (by simpa using h5), decide_eq_true]; exact ⟨h1, h2, h3, h4, by omega⟩
        · have e : (bif (!decide (p.Kind = 4)) then some (!decide (p.Hist = H0)) else some false : Option Bool) = some true := by
            rw [bifT (by rw [decide_eq_false (fun h => h4 (.inl h))]; rfl), decide_eq_false (fun h => h4 (.inr h))]; rfl
          rw [e, bind_some, cond_true, cond_true, decide_eq_false (fun h => h4 h.2.2.2.1)]
      · have e : ((!decide (p.Kind = 5)) && (!decide (p.Im = 0))) = true := by rw [decide_eq_false (fun h => h3 (.inl h)), decide_eq_false (fun h => h3 (.inr h))]; rfl
        rw [e, cond_true, cond_true, decide_eq_false (fun h => h3 h.2.2.1)]
    · have e : ((!(((decide (p.Kind = 2)) || (decide (p.Kind = 3))) || (decide (p.Kind = 5)))) && (!decide (p.Re = 0))) = true := by
        rw [decide_eq_false (fun h => h2 (.inl (.inl h))), decide_eq_false (fun h => h2 (.inl (.inr (.inl h)))), decide_eq_false (fun h => h2 (.inl (.inr (.inr h)))), decide_eq_false (fun h => h2 (.inr h))]; rfl
      rw [e, cond_true, cond_true, decide_eq_false (fun h => h2 h.2.1)]
  · have e : ((!decide (p.Kind = 1)) && (!decide (p.Int_ = 0))) = true := by rw [decide_eq_false (fun h => h1 (.inl h)), decide_eq_false (fun h => h1 (.inr h))]; rfl
    rw [e, cond_true, cond_true, decide_eq_false (fun h => h1 h.1)]
theorem chk_eq {p : api_Point} (o : OkH p.Hist) : point_Check p = some (chkE p) := by
  unfold point_Check chkE
  rw [label_eq, bind_some]
  by_cases h1 : labelE p.Name p.Attrs = 0
  · rw [bifF (by rw [decide_eq_true h1]; rfl), if_neg (by simpa using h1), kinds_eq, bind_some, lett_eq]
    by_cases h2 : KindP p
    · rw [bifF (by rw [decide_eq_true h2]; rfl), if_neg (fun h => h h2)]
      have e1 : (((bif p.Mono then (point_sum p).bind fun r78 => some (!r78) else some false : Option Bool).bind fun x68 =>
 bif x68 then
 some x68
 else
 (point_times p).bind fun r95 =>
 lett ((!r95)) fun t104 =>
 some t104) : Option Bool) = some (decide ((p.Mono = true ∧ ¬ (p.Kind = 1 ∨ p.Kind = 2)) ∨ ¬ TimeP p)) := by
        unfold point_sum
        rw [times_eq, bind_some, lett_eq, lett_eq, bind_some]
        have fin : (!decide (TimeP p)) = decide ((p.Mono = true ∧ ¬ (p.Kind = 1 ∨ p.Kind = 2)) ∨ ¬ TimeP p) ∨ (p.Mono = true ∧ ¬ (p.Kind = 1 ∨ p.Kind = 2)) := by
          by_cases hb : p.Mono = true ∧ ¬ (p.Kind = 1 ∨ p.Kind = 2)
          · exact .inr hb
          · refine .inl ?_
            by_cases hT : TimeP p
            · rw [decide_eq_true hT, decide_eq_false (fun h => h.elim hb (fun h => h hT))]; rfl
            · rw [decide_eq_false hT, decide_eq_true (.inr hT)]; rfl
        rcases fin with hf | hf
        · rw [← hf]
          cases hm : p.Mono with
          | false => rfl
          | true =>
            rw [cond_true, bind_some]
            by_cases hk : p.Kind = 1 ∨ p.Kind = 2
            · rw [bifF (by rcases hk with h | h <;> simp [h])]
            · rw [hf, decide_eq_true (p := (p.Mono = true ∧ ¬ (p.Kind = 1 ∨ p.Kind = 2)) ∨ ¬ TimeP p) (.inl ⟨hm, hk⟩), decide_eq_false (p := p.Kind = 1) (fun h => hk (.inl h)), decide_eq_false (p := p.Kind = 2) (fun h => hk (.inr h))]; rfl
        · rw [decide_eq_true (p := (p.Mono = true ∧ ¬ (p.Kind = 1 ∨ p.Kind = 2)) ∨ ¬ TimeP p) (.inl hf), hf.1, cond_true, bind_some, decide_eq_false (p := p.Kind = 1) (fun h => hf.2 (.inl h)), decide_eq_false (p := p.Kind = 2) (fun h => hf.2 (.inr h))]; rfl
      rw [e1, bind_some]
      by_cases h3 : (p.Mono = true ∧ ¬ (p.Kind = 1 ∨ p.Kind = 2)) ∨ ¬ TimeP p
      · rw [bifTd h3, if_pos h3]
      · rw [bifFd h3, if_neg h3, own_eq o, bind_some, lett_eq]
        by_cases h4 : OwnP p
        · rw [bifF (by rw [decide_eq_true h4]; rfl), if_neg (fun h => h h4), numFinite_eq, bind_some]
          have e2 : (bif (p.Mono && (decide (p.Kind = 2))) then some (!decide (fE p.Re.toNat ≠ 2047)) else some false : Option Bool) = some (decide ((p.Mono = true ∧ p.Kind = 2) ∧ finB p.Re = false)) := by
            unfold finB
            cases p.Mono <;> by_cases hk : p.Kind = 2 <;> by_cases hf : fE p.Re.toNat = 2047 <;> simp [hk, hf]
          rw [e2, bind_some]
          by_cases h5 : (p.Mono = true ∧ p.Kind = 2) ∧ finB p.Re = false
          · rw [bifTd h5, if_pos h5]
          · rw [bifFd h5, if_neg h5]
            unfold num_Less
            have e3 : (bif p.Mono then (bif decide (p.Int_ < 0) then some true else (some (fLess p.Re 0)).bind fun r162 => some r162 : Option Bool).bind fun x155 => some x155 else some false : Option Bool) = some (decide (p.Mono = true ∧ (p.Int_ < 0 ∨ fLess p.Re 0 = true))) := by
              cases p.Mono <;> by_cases hk : p.Int_ < 0 <;> cases fLess p.Re 0 <;> simp [hk]
            rw [e3, bind_some]
            by_cases h6 : p.Mono = true ∧ (p.Int_ < 0 ∨ fLess p.Re 0 = true)
            · rw [bifTd h6, if_pos h6]
            · rw [bifFd h6, if_neg h6, lett_eq]
              by_cases h7 : p.Kind = 4
              · rw [bifTd h7, if_pos h7, Check_eq o, bind_some]
              · rw [bifFd h7, if_neg h7]
        · rw [bifT (by rw [decide_eq_false h4]; rfl), if_pos h4]
    · rw [bifT (by rw [decide_eq_false h2]; rfl), if_pos h2]
  · rw [bifT (by rw [decide_eq_false h1]; rfl), if_pos h1]
end Go.Lg
namespace Go.Lg
attribute [local irreducible] w64 toU64 toU8 shlU shrU shlB shrB
end Go.Lg
namespace Go.Lg
attribute [local irreducible] w64 toU64 toU8 shlU shrU shlB shrB
def Pt0 : api_Point := ⟨[], [], 0, 0, false, 0, 0, 0, 0, 0, H0, 0⟩
instance decI64 (x : Int) : Decidable (I64 x) := by unfold I64; exact inferInstance
theorem clone_h {h : api_Hist} (hp : h.Pos.Counts.length ≤ 1000000) (hn : h.Neg.Counts.length ≤ 1000000) : hist_Clone h = some h := by
  unfold hist_Clone slices_Clone_uint64_uint64
  rw [app_ok (by simp; omega), bind_some, app_ok (by simp; omega), bind_some]; rfl
theorem clone_p {p : api_Point} (ha : p.Attrs.length ≤ 1000) (o : OkH p.Hist) : point_Clone p = some p := by
  unfold point_Clone slices_Clone_api_Pair_api_Pair
  rw [app_ok (by simp; omega), bind_some, clone_h o.pl o.nl, bind_some]; rfl
/-! ### does a sum go round? -/
/-! ### are all finite? -/
/-! ### the fitted histogram -/
/-! ### a state and a point together -/
end Go.Lg
namespace Go.Lg
attribute [local irreducible] w64 toU64 toU8 shlU shrU shlB shrB
/-! ### light points -/
def lightA (l : List api_Pair) : Bool := l.all fun a => decide (a.Key.length ≤ 100) && decide (a.Val.length ≤ 100)
theorem rlightA_eq (l : List api_Pair) : ref11_Light l = some (decide (l.length ≤ 20) && lightA l) := by
  unfold ref11_Light
  by_cases h : l.length ≤ 20
  · rw [bifFd (by omega), decide_eq_true h, Bool.true_and]
    have hs : ∀ i : Nat, i < l.length → ref11_Light_lp1 l (i : Int) = some (rndE i (if (decide ((l.getD i P0).Key.length ≤ 100) && decide ((l.getD i P0).Val.length ≤ 100)) = true then none else some false)) := by
      intro i hi
      unfold ref11_Light_lp1
      rw [bifTd (by omega), idx_nat hi, bind_some, bind_some, getD_lt hi]
      by_cases h1 : l[i].Key.length ≤ 100
      · rw [bifFd (by omega), bind_some]
        by_cases h2 : l[i].Val.length ≤ 100
        · rw [bifFd (by omega), lett_eq, w64_succ (by omega), if_pos (by simp [h1, h2])]; rfl
        · rw [bifTd (by omega), if_neg (by simp [h2])]; rfl
      · rw [bifTd (by omega), bind_some, bifT rfl, if_neg (by simp [h1])]; rfl
    rw [scan0 (n := l.length) _ hs (by unfold ref11_Light_lp1; rw [bifFd (by omega)]), flow_E]
    exact all_first (p := fun a : api_Pair => decide (a.Key.length ≤ 100) && decide (a.Val.length ≤ 100)) fun i hi => by rw [getD_lt hi]
  · rw [bifTd (by omega), decide_eq_false h, Bool.false_and]
def lightP (p : api_Point) : Bool := decide (p.Name.length ≤ 100) && ((decide (p.Attrs.length ≤ 20) && lightA p.Attrs) && (decide ((p.Hist.Pos.Counts.length : Int) ≤ 300) && decide ((p.Hist.Neg.Counts.length : Int) ≤ 300)))
theorem rlightP_eq (p : api_Point) : ref12_Light p = some (lightP p) := by
  unfold ref12_Light lightP
  rw [rlightA_eq, light_eq]
  by_cases h : p.Name.length ≤ 100
  · rw [bifTd (by omega), bind_some, bind_some, decide_eq_true h, Bool.true_and]
    cases (decide (p.Attrs.length ≤ 20) && lightA p.Attrs) <;> rfl
  · rw [bifFd (by omega), bind_some, bifF rfl, bind_some, decide_eq_false h, Bool.false_and]
structure LiP (p : api_Point) : Prop where
  la : p.Attrs.length ≤ 20
  lp : (p.Hist.Pos.Counts.length : Int) ≤ 300
  ln : (p.Hist.Neg.Counts.length : Int) ≤ 300
theorem lightP_of {p : api_Point} (h : lightP p = true) : LiP p := by
  unfold lightP at h
  simp only [Bool.and_eq_true, decide_eq_true_eq] at h
  exact ⟨h.2.1.1, h.2.2.1, h.2.2.2⟩
structure IsP (p : api_Point) : Prop where
  i : I64 p.Int_
  h : Is p.Hist
structure IsS (s : api_State) : Prop where
  i : I64 s.Int_
  h : Is s.Hist
theorem LiP.ok {p : api_Point} (l : LiP p) (i : IsP p) : OkH p.Hist := i.h.ok l.lp l.ln
/-! ### by the document -/
/-- what a point of its kind alone holds -/
structure KindQ (q : api_Point) : Prop where
  k : q.Kind = 1 ∨ q.Kind = 2 ∨ q.Kind = 4 ∨ q.Kind = 5
  i : q.Kind ≠ 1 → q.Int_ = 0
  r : q.Kind = 1 ∨ q.Kind = 4 → q.Re = 0
  m : q.Kind ≠ 5 → q.Im = 0
  h : q.Kind ≠ 4 → q.Hist = H0
end Go.Lg
namespace Go.Lg
attribute [local irreducible] w64 toU64 toU8 shlU shrU shlB shrB
end Go.Lg
namespace Go.Lg
open Ieee
attribute [local irreducible] w64 toU64 toU8 shlU shrU shlB shrB
end Go.Lg
namespace Go.Lg
structure ref36_Got where
  P : api_Point
  E : Int
  deriving DecidableEq
structure ref36_Rolled where
  L : List api_Point
  At : Int
  E : Int
  deriving DecidableEq
noncomputable def cmp_isNaN_string (a0 : List UInt8) : Option Bool :=
 lett ((!decide (a0 = a0))) fun t11 =>
 some t11
noncomputable def cmp_Compare_string (a0 : List UInt8) (a1 : List UInt8) : Option Int :=
 (cmp_isNaN_string a0).bind fun r11 =>
 (cmp_isNaN_string a1).bind fun r20 =>
 bif r11 then
 bif r20 then
 some 0
 else
 some (-1)
 else
 bif r20 then
 some 1
 else
 bif sLess a0 a1 then
 some (-1)
 else
 bif sLess a1 a0 then
 some 1
 else
 some 0
noncomputable def label_Sorted_lp3 (a52 : Int) : (List api_Pair × Int) → Option (Rnd (List api_Pair × Int) (List api_Pair) (List api_Pair)) := fun (data114, j117) =>
 (bif decide (a52 < j117) then
 (idx data114 j117).bind fun e167 =>
 (idx data114 (w64 (j117 - 1))).bind fun e194 =>
 ((cmp_Compare_string e167.Key e194.Key).bind fun r228 =>
 some r228 : Option Int).bind fun x211 =>
 some (decide (x211 < 0))
 else
 some false).bind fun x150 =>
 bif x150 then
 (idx data114 (w64 (j117 - 1))).bind fun e273 =>
 (idx data114 j117).bind fun e295 =>
 (some ()).bind fun (_ : Unit) =>
 (idx data114 j117).bind fun e311 =>
 (setI data114 j117 e273).bind fun xs324 =>
 (idx xs324 (w64 (j117 - 1))).bind fun e328 =>
 (setI xs324 (w64 (j117 - 1)) e295).bind fun xs341 =>
 lett (w64 (j117 - 1)) fun j345 =>
 some (.next (xs341, j345))
 else
 some (.brk data114)
noncomputable def label_Sorted_lp2 (a52 : Int) (b53 : Int) : (List api_Pair × Int) → Option (Rnd (List api_Pair × Int) (List api_Pair) (List api_Pair)) := fun (data83, i86) =>
 bif decide (i86 < b53) then
 (flow (loop (label_Sorted_lp3 a52) (data83, i86)) fun data121 =>
 some data121 : Option (List api_Pair)).bind fun data106 =>
 lett (w64 (i86 + 1)) fun i354 =>
 some (.next (data106, i354))
 else
 some (.brk data83)
noncomputable def label_Sorted_lp1 (r12 : List api_Pair) : (List api_Pair × Int × Int) → Option (Rnd (List api_Pair × Int × Int) (List api_Pair × Int) (List api_Pair × Int)) := fun (data49, a52, b53) =>
 bif decide (b53 ≤ (r12.length : Int)) then
 (lett (w64 (a52 + 1)) fun i82 =>
 flow (loop (label_Sorted_lp2 a52 b53) (data49, i82)) fun x90 =>
 some x90 : Option (List api_Pair)).bind fun data74 =>
 lett (w64 (b53 + 20)) fun b364 =>
 some (.next (data74, b53, b364))
 else
 some (.brk (data49, a52))
noncomputable def label_Sorted_lp5 (a43 : Int) : (List api_Pair × Int) → Option (Rnd (List api_Pair × Int) (List api_Pair) (List api_Pair)) := fun (data414, j417) =>
 (bif decide (a43 < j417) then
 (idx data414 j417).bind fun e467 =>
 (idx data414 (w64 (j417 - 1))).bind fun e494 =>
 ((cmp_Compare_string e467.Key e494.Key).bind fun r528 =>
 some r528 : Option Int).bind fun x511 =>
 some (decide (x511 < 0))
 else
 some false).bind fun x450 =>
 bif x450 then
 (idx data414 (w64 (j417 - 1))).bind fun e573 =>
 (idx data414 j417).bind fun e595 =>
 (some ()).bind fun (_ : Unit) =>
 (idx data414 j417).bind fun e611 =>
 (setI data414 j417 e573).bind fun xs624 =>
 (idx xs624 (w64 (j417 - 1))).bind fun e628 =>
 (setI xs624 (w64 (j417 - 1)) e595).bind fun xs641 =>
 lett (w64 (j417 - 1)) fun j645 =>
 some (.next (xs641, j645))
 else
 some (.brk data414)
noncomputable def label_Sorted_lp4 (r12 : List api_Pair) (a43 : Int) : (List api_Pair × Int) → Option (Rnd (List api_Pair × Int) (List api_Pair) (List api_Pair)) := fun (data383, i386) =>
 bif decide (i386 < (r12.length : Int)) then
 (flow (loop (label_Sorted_lp5 a43) (data383, i386)) fun data421 =>
 some data421 : Option (List api_Pair)).bind fun data406 =>
 lett (w64 (i386 + 1)) fun i654 =>
 some (.next (data406, i654))
 else
 some (.brk data383)
noncomputable def label_Sorted_lp7 (r12 : List api_Pair) (b675 : Int) : Unit → Option (Rnd Unit Unit Unit) := fun (_ : Unit) =>
 bif decide (b675 ≤ (r12.length : Int)) then
 none
 else
 some (.brk ())
noncomputable def label_Sorted_lp6 (r12 : List api_Pair) : Int → Option (Rnd Int Unit (List api_Pair)) := fun blockSize664 =>
 bif decide (blockSize664 < (r12.length : Int)) then
 (lett (w64 (2 * blockSize664)) fun b675 =>
 (flow (loop (label_Sorted_lp7 r12 b675) ()) fun (_ : Unit) =>
 some ()).bind fun (_ : Unit) =>
 (lett (w64 (0 + blockSize664)) fun m687 =>
 bif decide (m687 < (r12.length : Int)) then
 none
 else
 some ()).bind fun (_ : Unit) =>
 lett (w64 (blockSize664 * 2)) fun blockSize689 =>
 some blockSize689 : Option Int).bind fun blockSize672 =>
 some (.next blockSize672)
 else
 some (.brk ())
noncomputable def label_Sorted (a0 : List api_Pair) : Option (List api_Pair) :=
 (slices_Clone_api_Pair_api_Pair a0).bind fun r12 =>
 (((flow (loop (label_Sorted_lp1 r12) (r12, 0, 20)) fun (data57, a60) =>
 some (data57, a60) : Option (List api_Pair × Int)).bind fun (data40, a43) =>
 (lett (w64 (a43 + 1)) fun i382 =>
 flow (loop (label_Sorted_lp4 r12 a43) (data40, i382)) fun x390 =>
 some x390 : Option (List api_Pair)).bind fun data374 =>
 flow (loop (label_Sorted_lp6 r12) 20) fun (_ : Unit) =>
 some data374 : Option (List api_Pair)).bind fun x32 =>
 some x32 : Option (List api_Pair)).bind fun out24 =>
 some out24
end Go.Lg
namespace Go.Lg
attribute [local irreducible] w64 toU64 toU8 shlU shrU shlB shrB
/-- where one goes among others, looked for from behind -/
def posK (out : List api_Pair) (x : api_Pair) : Nat → Nat
  | 0 => 0
  | k + 1 => if sLess x.Key (out.getD k P0).Key = true then posK out x k else k + 1
theorem posK_le (out : List api_Pair) (x : api_Pair) : ∀ k, posK out x k ≤ k
  | 0 => Nat.le_refl _
  | k + 1 => by
    unfold posK
    split
    · exact Nat.le_succ_of_le (posK_le out x k)
    · exact Nat.le_refl _
def insK (out : List api_Pair) (x : api_Pair) : List api_Pair := out.take (posK out x out.length) ++ x :: out.drop (posK out x out.length)
theorem insK_length (out : List api_Pair) (x : api_Pair) : (insK out x).length = out.length + 1 := by
  have := posK_le out x out.length
  simp only [insK, List.length_append, List.length_take, List.length_cons, List.length_drop]; omega
def srt (l : List api_Pair) : List api_Pair := l.foldl insK []
theorem foldK_length : ∀ (l out : List api_Pair), (l.foldl insK out).length = l.length + out.length
  | [], out => by simp
  | x :: l, out => by
    rw [List.foldl_cons, foldK_length l, insK_length, List.length_cons]; omega
theorem srt_length (l : List api_Pair) : (srt l).length = l.length := by
  have := foldK_length l []
  simpa [srt] using this
theorem cmp_eq (a b : List UInt8) : cmp_Compare_string a b = some (if sLess a b = true then -1 else if sLess b a = true then 1 else 0) := by
  unfold cmp_Compare_string cmp_isNaN_string
  simp only [decide_true, Bool.not_true, lett_eq, bind_some, cond_false]
  cases sLess a b <;> cases sLess b a <;> rfl
section
variable {α : Type} {A R : List α} {x y z : α} {k : Nat}
theorem idx_app0 (h : A.length = k) : idx (A ++ y :: R) (k : Int) = some y := by
  subst h
  rw [idx_nat (by simp)]; simp
theorem idx_app1 (h : A.length = k) : idx (A ++ y :: x :: R) ((k + 1 : Nat) : Int) = some x := by
  subst h
  rw [idx_nat (by simp)]; simp
theorem setI_app0 (h : A.length = k) : setI (A ++ y :: R) (k : Int) z = some (A ++ z :: R) := by
  subst h
  rw [setI_nat (by simp)]; simp
theorem setI_app1 (h : A.length = k) : setI (A ++ y :: x :: R) ((k + 1 : Nat) : Int) z = some (A ++ y :: z :: R) := by
  subst h
  rw [setI_nat (by simp)]; simp
end
theorem isort_lp5 (out rest : List api_Pair) (x : api_Pair) (hl : out.length ≤ 1000) : ∀ k : Nat, k ≤ out.length →
    loop (label_Sorted_lp5 0) (out.take k ++ x :: (out.drop k ++ rest), (k : Int)) = some (.go (out.take (posK out x k) ++ x :: (out.drop (posK out x k) ++ rest)))
  | 0, h => loop_brk (by unfold label_Sorted_lp5; dsimp only; rw [bifFd (by omega), bind_some, cond_false]; rfl)
  | k + 1, h => by
    have hk2 : k < out.length := by omega
    have h1 : w64 (((k + 1 : Nat) : Int) - 1) = (k : Int) := by rw [w64_id] <;> omega
    have hA : (out.take k).length = k := by rw [List.length_take]; omega
    have hg : out.getD k P0 = out[k] := by simp [List.getD, hk2]
    have e1 : out.take (k + 1) ++ x :: (out.drop (k + 1) ++ rest) = out.take k ++ out[k] :: x :: (out.drop (k + 1) ++ rest) := by
      rw [← List.take_append_getElem hk2, List.append_assoc]; rfl
    cases hc : sLess x.Key out[k].Key with
    | true =>
      have hp : posK out x (k + 1) = posK out x k := by
        rw [posK, hg, if_pos hc]
      rw [hp, ← isort_lp5 out rest x hl k (by omega), e1, List.drop_eq_getElem_cons hk2]
      refine loop_next ?_
      unfold label_Sorted_lp5
      dsimp only
      rw [bifTd (by omega), h1, idx_app1 hA, bind_some, idx_app0 hA, bind_some, cmp_eq, bind_some, bind_some, if_pos hc, bind_some, bifTd (by decide), bind_some, bind_some, bind_some, bind_some, setI_app1 hA, bind_some, idx_app0 hA, bind_some, setI_app0 hA, bind_some, lett_eq]
      rfl
    | false =>
      have hp : posK out x (k + 1) = k + 1 := by
        rw [posK, hg, if_neg (by rw [hc]; decide)]
      rw [hp, e1]
      refine loop_brk ?_
      unfold label_Sorted_lp5
      dsimp only
      have hn : ¬ ((if sLess x.Key out[k].Key = true then (-1 : Int) else if sLess out[k].Key x.Key = true then 1 else 0) < 0) := by
        rw [hc, if_neg (by decide)]; split <;> decide
      rw [bifTd (by omega), h1, idx_app1 hA, bind_some, idx_app0 hA, bind_some, cmp_eq, bind_some, bind_some, bind_some, bifFd hn]
theorem isort_lp4 (l : List api_Pair) (hl : l.length ≤ 100) : ∀ (m i : Nat) (out : List api_Pair), i + m = l.length → out.length = i → loop (label_Sorted_lp4 l 0) (out ++ l.drop i, (i : Int)) = some (.go ((l.drop i).foldl insK out))
  | 0, i, out, h, ho => by
    rw [List.drop_eq_nil_of_le (by omega), List.append_nil]
    exact loop_brk (by unfold label_Sorted_lp4; dsimp only; rw [bifFd (by omega)]; rfl)
  | m + 1, i, out, h, ho => by
    have hi : i < l.length := by omega
    have h5 := isort_lp5 out (l.drop (i + 1)) l[i] (by omega) i (by omega)
    rw [List.take_of_length_le (by omega), List.drop_eq_nil_of_le (Nat.le_of_eq ho), List.nil_append] at h5
    have hq : posK out l[i] out.length = posK out l[i] i := by rw [ho]
    rw [List.drop_eq_getElem_cons hi, List.foldl_cons, ← isort_lp4 l hl m (i + 1) (insK out l[i]) (by omega) (by rw [insK_length]; omega)]
    refine loop_next ?_
    unfold label_Sorted_lp4
    dsimp only
    rw [bifTd (by omega), h5, flow_go, bind_some, lett_eq, w64_succ (by omega), insK, hq, List.append_assoc, List.cons_append]
theorem sorted_eq (l : List api_Pair) (hl : l.length < 20) : label_Sorted l = some (srt l) := by
  have h4 : loop (label_Sorted_lp4 l 0) (l, 1) = some (.go (srt l)) := by
    cases l with
    | nil => exact loop_brk (by unfold label_Sorted_lp4; dsimp only; rw [bifFd (by simp)]; rfl)
    | cons x l => exact isort_lp4 (x :: l) (by omega) l.length 1 [x] (by rw [List.length_cons]; omega) rfl
  unfold label_Sorted slices_Clone_api_Pair_api_Pair
  rw [app_ok (by simp only [List.length_nil]; omega), bind_some, List.nil_append]
  have h1 : loop (label_Sorted_lp1 l) (l, 0, 20) = some (.go (l, 0)) := loop_brk (by unfold label_Sorted_lp1; dsimp only; rw [bifFd (by omega)])
  have h6 : loop (label_Sorted_lp6 l) 20 = some (.go ()) := loop_brk (by unfold label_Sorted_lp6; rw [bifFd (by omega)])
  rw [h1, flow_go, bind_some]
  dsimp only
  rw [lett_eq, show w64 (0 + 1) = 1 by rw [w64_id] <;> omega, h4, flow_go, bind_some, h6, flow_go, bind_some, bind_some]
end Go.Lg
namespace Go.Lg
attribute [local irreducible] w64 toU64 toU8 shlU shrU shlB shrB
theorem firstE_pair {l : List api_Pair} {n i : Nat} (h : (firstE (pairE l) n i).getD 0 = 0) : firstE (pairE l) n i = none := by
  by_cases hn : firstE (pairE l) n i = none
  · exact hn
  · obtain ⟨j, _, _, h3, h4⟩ := first_ex n i hn
    rw [h3] at h
    unfold pairE at h h4
    split at h
    · split at h
      · cases h
      · rename_i h1 h2
        rw [if_pos h1, if_neg h2] at h4
        exact absurd rfl h4
    · cases h
theorem nameOk_len {l : List UInt8} (h : nameOk l = true) : l.length ≤ 32 := by
  unfold nameOk at h
  simp only [Bool.and_eq_true, decide_eq_true_eq] at h
  exact h.1.1.2
theorem valueOk_len {l : List UInt8} (h : valueOk l = true) : l.length ≤ 32 := by
  unfold valueOk at h
  simp only [Bool.and_eq_true, decide_eq_true_eq] at h
  exact h.1.2
theorem label_lens {n : List UInt8} {l : List api_Pair} (h : labelE n l = 0) : n.length ≤ 32 ∧ l.length ≤ 4 ∧ ∀ p ∈ l, p.Key.length ≤ 32 ∧ p.Val.length ≤ 32 := by
  unfold labelE at h
  split at h
  · cases h
  · rename_i h1
    split at h
    · cases h
    · rename_i h2
      refine ⟨nameOk_len (by simpa using h1), by omega, fun p hp => ?_⟩
      have h3 := (firstE_none _ _).1 (firstE_pair h)
      obtain ⟨j, hj, rfl⟩ := List.getElem_of_mem hp
      have h4 := h3 j (Nat.zero_le _) (by omega)
      unfold pairE at h4
      have hg : l.getD j P0 = l[j] := by simp [List.getD, hj]
      rw [hg] at h4
      split at h4
      · rename_i h5
        simp only [Bool.and_eq_true] at h5
        exact ⟨nameOk_len h5.1, valueOk_len h5.2⟩
      · cases h4
def addP (s : List UInt8) (p : api_Pair) : List UInt8 := s ++ (59 :: (p.Key ++ 61 :: p.Val))
def textL (n : List UInt8) (l : List api_Pair) : List UInt8 := (srt l).foldl addP n
def dig (n : Int) : UInt8 := toU8 (w64 (48 + n))
def one01 (b : Bool) : Int := if b = true then 1 else 0
/-- a point's key -/
def keyT (p : api_Point) : List UInt8 := textL p.Name p.Attrs ++ [32, dig p.Kind, dig p.Temp, dig (one01 p.Mono)]
theorem chk_label {p : api_Point} (h : chkE p = 0) : labelE p.Name p.Attrs = 0 := by
  unfold chkE at h
  split at h
  · rename_i h1; exact absurd h h1
  · rename_i h1; exact Decidable.not_not.1 h1
end Go.Lg
namespace Go.Lg
attribute [local irreducible] w64 toU64 toU8 shlU shrU shlB shrB
/-! ### flags -/
/-! ### two points that stand one behind the other -/
structure Nbr (a b : api_Point) : Prop where
  ca : chkE a = 0
  cb : chkE b = 0
  k : a.Kind = b.Kind
  t : a.Temp = b.Temp
  m : a.Mono = b.Mono
  oa : OkH a.Hist
  ob : OkH b.Hist
  ia : I64 a.Int_
  ib : I64 b.Int_
  lb : b.Attrs.length ≤ 1000
end Go.Lg
namespace Go.Lg
attribute [local irreducible] w64 toU64 toU8 shlU shrU shlB shrB
/-! ### keys -/
end Go.Lg
namespace Go.Lg
attribute [local irreducible] w64 toU64 toU8 shlU shrU shlB shrB
structure Pok (p : api_Point) : Prop where
  o : OkH p.Hist
  i : I64 p.Int_
  a : p.Attrs.length ≤ 100
theorem Pt0_pok : Pok Pt0 := ⟨H0_good.ok, by unfold I64 Pt0; dsimp only; omega, by decide⟩
theorem same_pok {p : api_Point} (o : Pok p) : ref12_Same p p = some true := sameP_self o.a o.o.pl o.o.nl
/-! ### Roll -/
structure Inv (cur prev : api_Point) : Prop where
  cc : chkE cur = 0
  cp : chkE prev = 0
  k : cur.Kind = prev.Kind
  t : cur.Temp = prev.Temp
  m : cur.Mono = prev.Mono
  ti : cur.Time = prev.Time
  key : keyT cur = keyT prev
  oc : Pok cur
  op : Pok prev
end Go.Lg
namespace Go.Lg
attribute [local irreducible] w64 toU64 toU8 shlU shrU shlB shrB
/-! ### what the document tells -/
theorem LiP.pok {p : api_Point} (l : LiP p) (i : IsP p) : Pok p := ⟨l.ok i, i.i, by have := l.la; omega⟩
end Go.Lg
namespace Go.Lg
structure api_Fld where
  Num : Int
  Type_ : Int
  V : UInt64
  B : List UInt8
  deriving DecidableEq
structure ref30_Got where
  V : UInt64
  N : Int
  E : Int
  deriving DecidableEq
structure ref30_Message where
  L : List api_Fld
  At : Int
  E : Int
  deriving DecidableEq
end Go.Lg
namespace Go.Lg
structure glob_set where
  a0 : UInt64
  a1 : UInt64
  a2 : UInt64
  a3 : UInt64
  deriving DecidableEq
structure glob_piece where
  kind : Int
  set : glob_set
  plain : Bool
  c : UInt8
  deriving DecidableEq
structure glob_fault where
  at_ : Int
  e : Int
  deriving DecidableEq
structure glob_Glob where
  text : List UInt8
  pieces : List glob_piece
  deriving DecidableEq
structure ref32_Thing where
  C : UInt8
  Next : Int
  deriving DecidableEq
structure ref32_Piece where
  Many : Bool
  Plain : Bool
  In : List Bool
  C : UInt8
  deriving DecidableEq
structure ref32_Got where
  L : List ref32_Piece
  At : Int
  E : Int
  deriving DecidableEq
noncomputable def glob_closed_lp1 (a0 : List UInt8) : Int → Option (Rnd Int Int Int) := fun at14 =>
 (bif decide (at14 < (a0.length : Int)) then
 (idx a0 at14).bind fun c26 =>
 some (!decide (c26 = 93))
 else
 some false : Option Bool).bind fun x22 =>
 bif x22 then
 (((idx a0 at14).bind fun c34 =>
 bif decide (c34 = 92) then
 lett (w64 (at14 + 1)) fun at36 =>
 some at36
 else
 some at14 : Option Int).bind fun at31 =>
 lett (w64 (at31 + 1)) fun at37 =>
 some at37 : Option Int).bind fun at28 =>
 some (.next at28)
 else
 some (.brk at14)
noncomputable def glob_closed (a0 : List UInt8) (a1 : Int) : Option Bool :=
 (flow (loop (glob_closed_lp1 a0) a1) fun at15 =>
 some at15 : Option Int).bind fun at11 =>
 lett (decide (at11 < (a0.length : Int))) fun t38 =>
 some t38
noncomputable def glob_member (a0 : List UInt8) (a1 : Int) : Option (UInt8 × Int) :=
 (idx a0 a1).bind fun c11 =>
 bif decide (c11 = 92) then
 (idx a0 (w64 (a1 + 1))).bind fun c13 =>
 some (c13, 2)
 else
 (idx a0 a1).bind fun c15 =>
 some (c15, 1)
noncomputable def glob_class_lp2 (end158 : UInt8) : (UInt64 × UInt64 × UInt64 × UInt64 × Int) → Option (Rnd (UInt64 × UInt64 × UInt64 × UInt64 × Int) (UInt64 × UInt64 × UInt64 × UInt64) (UInt64 × UInt64 × UInt64 × UInt64)) := fun (c223, c224, c225, c226, c227) =>
 bif decide (c227 ≤ (end158.toNat : Int)) then
 ((idx ([c223, c224, c225, c226] : List UInt64) (((toU8 c227) / 64).toNat : Int)).bind fun e260 =>
 (idx ([c223, c224, c225, c226] : List UInt64) (((toU8 c227) / 64).toNat : Int)).bind fun e263 =>
 lett ((e260 ||| (shlU (1 : UInt64) ((((toU8 c227) % 64).toUInt64).toNat)))) fun t265 =>
 some ((up4 (((toU8 c227) / 64).toNat : Int) 0 t265 c223), (up4 (((toU8 c227) / 64).toNat : Int) 1 t265 c224), (up4 (((toU8 c227) / 64).toNat : Int) 2 t265 c225), (up4 (((toU8 c227) / 64).toNat : Int) 3 t265 c226)) : Option (UInt64 × UInt64 × UInt64 × UInt64)).bind fun (c249, c250, c251, c252) =>
 lett (w64 (c227 + 1)) fun c269 =>
 some (.next (c249, c250, c251, c252, c269))
 else
 some (.brk (c223, c224, c225, c226))
noncomputable def glob_class_lp1 (a0 : List UInt8) : (UInt64 × UInt64 × UInt64 × UInt64 × Int) → Option (Rnd (UInt64 × UInt64 × UInt64 × UInt64 × Int) (UInt64 × UInt64 × UInt64 × UInt64 × Int) (Flow (UInt64 × UInt64 × UInt64 × UInt64 × Int) (glob_piece × Int × glob_fault))) := fun (c75, c76, c77, c78, at79) =>
 (idx a0 at79).bind fun c99 =>
 bif (!decide (c99 = 93)) then
 flow ((idx a0 at79).bind fun c112 =>
 bif decide (c112 = 45) then
 (idx a0 (w64 (at79 + 1))).bind fun c114 =>
 bif (!decide (c114 = 93)) then
 outs (outr (outs (some ((glob_piece.mk 0 (glob_set.mk c75 c76 c77 c78) false 0), 0, (glob_fault.mk at79 3)))))
 else
 (lett ((c75 ||| (shlU (1 : UInt64) (((45 : UInt8).toUInt64).toNat)))) fun t142 =>
 some t142 : Option UInt64).bind fun c133 =>
 lett (w64 (at79 + 1)) fun at146 =>
 some (.go (c133, c76, c77, c78, at146))
 else
 (glob_member a0 at79).bind fun (r147, r148) =>
 flow (lett (w64 (at79 + r148)) fun k164 =>
 (idx a0 k164).bind fun c165 =>
 (bif decide (c165 = 45) then
 (idx a0 (w64 (k164 + 1))).bind fun c170 =>
 some (!decide (c170 = 93))
 else
 some false : Option Bool).bind fun x166 =>
 (bif x166 then
 (idx a0 (w64 (k164 + 1))).bind fun c175 =>
 some (!decide (c175 = 45))
 else
 some false : Option Bool).bind fun x171 =>
 bif x171 then
 (glob_member a0 (w64 (k164 + 1))).bind fun (r177, r178) =>
 bif decide (r177 < r147) then
 outs (outs (outr (outs (some ((glob_piece.mk 0 (glob_set.mk c75 c76 c77 c78) false 0), 0, (glob_fault.mk at79 3))))))
 else
 lett (w64 ((w64 (r148 + 1)) + r178)) fun nv210 =>
 some (.go (nv210, r177))
 else
 some (.go (r148, r147)) : Option (Flow (Int × UInt8) (Flow (UInt64 × UInt64 × UInt64 × UInt64 × Int) (Rnd (UInt64 × UInt64 × UInt64 × UInt64 × Int) (UInt64 × UInt64 × UInt64 × UInt64 × Int) (Flow (UInt64 × UInt64 × UInt64 × UInt64 × Int) (glob_piece × Int × glob_fault)))))) fun (nv157, end158) =>
 (lett ((r147.toNat : Int)) fun c221 =>
 flow (loop (glob_class_lp2 end158) (c75, c76, c77, c78, c221)) fun (c232, c233, c234, c235) =>
 some (c232, c233, c234, c235) : Option (UInt64 × UInt64 × UInt64 × UInt64)).bind fun (c212, c213, c214, c215) =>
 lett (w64 (at79 + nv157)) fun at270 =>
 some (.go (c212, c213, c214, c215, at270)) : Option (Flow (UInt64 × UInt64 × UInt64 × UInt64 × Int) (Rnd (UInt64 × UInt64 × UInt64 × UInt64 × Int) (UInt64 × UInt64 × UInt64 × UInt64 × Int) (Flow (UInt64 × UInt64 × UInt64 × UInt64 × Int) (glob_piece × Int × glob_fault))))) fun (c102, c103, c104, c105, at106) =>
 some (.next (c102, c103, c104, c105, at106))
 else
 some (.brk (c75, c76, c77, c78, at79))
noncomputable def glob_class_lp3 : (UInt64 × UInt64 × UInt64 × UInt64 × Int) → Option (Rnd (UInt64 × UInt64 × UInt64 × UInt64 × Int) (UInt64 × UInt64 × UInt64 × UInt64) (UInt64 × UInt64 × UInt64 × UInt64)) := fun (c310, c311, c312, c313, x314) =>
 bif decide (x314 < 4) then
 (idx ([c310, c311, c312, c313] : List UInt64) x314).bind fun e333 =>
 (idx ([c310, c311, c312, c313] : List UInt64) x314).bind fun e335 =>
 lett ((~~~e333)) fun t337 =>
 some (.next ((up4 x314 0 t337 c310), (up4 x314 1 t337 c311), (up4 x314 2 t337 c312), (up4 x314 3 t337 c313), w64 (x314 + 1)))
 else
 some (.brk (c310, c311, c312, c313))
noncomputable def glob_class (a0 : List UInt8) (a1 : Int) : Option (glob_piece × Int × glob_fault) :=
 lett (w64 (a1 + 1)) fun at27 =>
 (bif decide (at27 < (a0.length : Int)) then
 (idx a0 at27).bind fun c32 =>
 some (decide (c32 = 33))
 else
 some false : Option Bool).bind fun x28 =>
 (bif x28 then
 lett (w64 (at27 + 1)) fun at37 =>
 some at37
 else
 some at27 : Option Int).bind fun at33 =>
 (glob_closed a0 at33).bind fun r38 =>
 bif (!r38) then
 some ((glob_piece.mk 0 (glob_set.mk 0 0 0 0) false 0), 0, (glob_fault.mk a1 2))
 else
 flow (flow (loop (glob_class_lp1 a0) (0, 0, 0, 0, at33)) fun (c84, c85, c86, c87, at88) =>
 some (.go (c84, c85, c86, c87, at88)) : Option (Flow (UInt64 × UInt64 × UInt64 × UInt64 × Int) (glob_piece × Int × glob_fault))) fun (c64, c65, c66, c67, at68) =>
 bif decide (at68 = at33) then
 some ((glob_piece.mk 0 (glob_set.mk c64 c65 c66 c67) false 0), 0, (glob_fault.mk a1 3))
 else
 (bif x28 then
 (flow (loop (glob_class_lp3) (c64, c65, c66, c67, 0)) fun (c319, c320, c321, c322) =>
 some (c319, c320, c321, c322) : Option (UInt64 × UInt64 × UInt64 × UInt64)).bind fun (c300, c301, c302, c303) =>
 some (c300, c301, c302, c303)
 else
 some (c64, c65, c66, c67) : Option (UInt64 × UInt64 × UInt64 × UInt64)).bind fun (c289, c290, c291, c292) =>
 lett (w64 ((w64 (at68 + 1)) - a1)) fun t380 =>
 some ((glob_piece.mk 0 (glob_set.mk c289 c290 c291 c292) false 0), t380, (glob_fault.mk 0 0))
noncomputable def glob_byteOf (a0 : UInt8) : Option glob_piece :=
 ((idx ([0, 0, 0, 0] : List UInt64) ((a0 / 64).toNat : Int)).bind fun e36 =>
 (idx ([0, 0, 0, 0] : List UInt64) ((a0 / 64).toNat : Int)).bind fun e39 =>
 lett ((e36 ||| (shlU (1 : UInt64) (((a0 % 64).toUInt64).toNat)))) fun t41 =>
 some ((up4 ((a0 / 64).toNat : Int) 0 t41 0), (up4 ((a0 / 64).toNat : Int) 1 t41 0), (up4 ((a0 / 64).toNat : Int) 2 t41 0), (up4 ((a0 / 64).toNat : Int) 3 t41 0)) : Option (UInt64 × UInt64 × UInt64 × UInt64)).bind fun (c25, c26, c27, c28) =>
 some (glob_piece.mk 0 (glob_set.mk c25 c26 c27 c28) true a0)
noncomputable def glob_next_lp1 : (UInt64 × UInt64 × UInt64 × UInt64 × Int) → Option (Rnd (UInt64 × UInt64 × UInt64 × UInt64 × Int) (UInt64 × UInt64 × UInt64 × UInt64) (UInt64 × UInt64 × UInt64 × UInt64)) := fun (c71, c72, c73, c74, c75) =>
 bif decide (c75 ≤ ((255 : UInt8).toNat : Int)) then
 ((idx ([c71, c72, c73, c74] : List UInt64) (((toU8 c75) / 64).toNat : Int)).bind fun e106 =>
 (idx ([c71, c72, c73, c74] : List UInt64) (((toU8 c75) / 64).toNat : Int)).bind fun e109 =>
 lett ((e106 ||| (shlU (1 : UInt64) ((((toU8 c75) % 64).toUInt64).toNat)))) fun t111 =>
 some ((up4 (((toU8 c75) / 64).toNat : Int) 0 t111 c71), (up4 (((toU8 c75) / 64).toNat : Int) 1 t111 c72), (up4 (((toU8 c75) / 64).toNat : Int) 2 t111 c73), (up4 (((toU8 c75) / 64).toNat : Int) 3 t111 c74)) : Option (UInt64 × UInt64 × UInt64 × UInt64)).bind fun (c95, c96, c97, c98) =>
 lett (w64 (c75 + 1)) fun c115 =>
 some (.next (c95, c96, c97, c98, c115))
 else
 some (.brk (c71, c72, c73, c74))
noncomputable def glob_next (a0 : List UInt8) (a1 : Int) : Option (glob_piece × Int × glob_fault) :=
 (idx a0 a1).bind fun c22 =>
 lett (decide (c22 = 42)) fun t23 =>
 bif t23 then
 some ((glob_piece.mk 1 (glob_set.mk 0 0 0 0) false 0), 1, (glob_fault.mk 0 0))
 else
 lett (decide (c22 = 63)) fun t52 =>
 bif t52 then
 (lett (((0 : UInt8).toNat : Int)) fun c69 =>
 flow (loop (glob_next_lp1) (0, 0, 0, 0, c69)) fun (c80, c81, c82, c83) =>
 some (c80, c81, c82, c83) : Option (UInt64 × UInt64 × UInt64 × UInt64)).bind fun (c60, c61, c62, c63) =>
 some ((glob_piece.mk 0 (glob_set.mk c60 c61 c62 c63) false 0), 1, (glob_fault.mk 0 0))
 else
 lett (decide (c22 = 91)) fun t151 =>
 bif t151 then
 (glob_class a0 a1).bind fun (r155, r156, r157) =>
 some (r155, r156, r157)
 else
 lett (decide (c22 = 92)) fun t178 =>
 bif t178 then
 bif decide (w64 (a1 + 1) = (a0.length : Int)) then
 some ((glob_piece.mk 0 (glob_set.mk 0 0 0 0) false 0), 0, (glob_fault.mk a1 2))
 else
 (idx a0 (w64 (a1 + 1))).bind fun c202 =>
 (glob_byteOf c202).bind fun r213 =>
 some (r213, 2, (glob_fault.mk 0 0))
 else
 (idx a0 a1).bind fun c247 =>
 (glob_byteOf c247).bind fun r258 =>
 some (r258, 1, (glob_fault.mk 0 0))
noncomputable def glob_Compile_lp1 (a0 : List UInt8) : (List glob_piece × Int) → Option (Rnd (List glob_piece × Int) (List glob_piece) (Option glob_Glob × Int × Int)) := fun (c20, i23) =>
 bif decide (i23 < (a0.length : Int)) then
 (glob_next a0 i23).bind fun (r43, r44, r45) =>
 bif (!(decide (r45.at_ = (0 : Int)) && (decide (r45.e = (0 : Int)) && true))) then
 outr (some (none, r45.at_, r45.e))
 else
 (app c20 [r43]).bind fun xs117 =>
 lett (w64 (i23 + r44)) fun i151 =>
 some (.next (xs117, i151))
 else
 some (.brk c20)
noncomputable def glob_Compile (a0 : List UInt8) : Option (Option glob_Glob × Int × Int) :=
 bif decide (64 < (a0.length : Int)) then
 some (none, 64, 4)
 else
 flow (loop (glob_Compile_lp1 a0) ([], 0)) fun c28 =>
 some ((some (glob_Glob.mk a0 c28)), 0, 0)
noncomputable def glob_Glob_Match_lp1 (a0 : glob_Glob) (a1 : List UInt8) : (Int × Int × Int × Int) → Option (Rnd (Int × Int × Int × Int) Unit Bool) := fun (at13, i14, back15, from16) =>
 (bif decide (i14 < (a0.pieces.length : Int)) then
 (idx a0.pieces i14).bind fun e32 =>
 some (decide (e32.kind = 1))
 else
 some false : Option Bool).bind fun x28 =>
 bif x28 then
 lett (w64 (i14 + 1)) fun i45 =>
 some (.next (at13, i45, i14, at13))
 else
 (bif ((decide (i14 < (a0.pieces.length : Int))) && (decide (at13 < (a1.length : Int)))) then
 (idx a0.pieces i14).bind fun e121 =>
 (idx a1 at13).bind fun c146 =>
 ((idx ([e121.set.a0, e121.set.a1, e121.set.a2, e121.set.a3] : List UInt64) ((c146 / 64).toNat : Int)).bind fun e153 =>
 lett (decide (((shrU e153 (((c146 % 64).toUInt64).toNat)) &&& 1) = 1)) fun t155 =>
 some t155 : Option Bool).bind fun x150 =>
 some x150
 else
 some false).bind fun x99 =>
 bif x99 then
 lett (w64 (i14 + 1)) fun i166 =>
 lett (w64 (at13 + 1)) fun at167 =>
 some (.next (at167, i166, back15, from16))
 else
 lett (((decide (i14 = (a0.pieces.length : Int))) && (decide (at13 = (a1.length : Int))))) fun t171 =>
 bif t171 then
 outr (some true)
 else
 lett (((decide (0 ≤ back15)) && (decide (from16 < (a1.length : Int))))) fun t175 =>
 bif t175 then
 lett (w64 (from16 + 1)) fun from177 =>
 lett (w64 (back15 + 1)) fun i178 =>
 some (.next (from177, i178, back15, from177))
 else
 outr (some false)
noncomputable def glob_Glob_Match (a0 : glob_Glob) (a1 : List UInt8) : Option Bool :=
 flow (loop (glob_Glob_Match_lp1 a0 a1) (0, 0, (-1), 0)) fun (_ : Unit) => none
def rep_glob_set : Rep glob_set := Rep.via (Rep.pair Rep.u (Rep.pair Rep.u (Rep.pair Rep.u Rep.u))) fun d => (d.a0, d.a1, d.a2, d.a3)
theorem flat_glob_set : Flat rep_glob_set := Flat.via (Flat.pair Flat.u (Flat.pair Flat.u (Flat.pair Flat.u Flat.u))) _
def rep_glob_piece : Rep glob_piece := Rep.via (Rep.pair Rep.i (Rep.pair rep_glob_set (Rep.pair Rep.B Rep.b))) fun d => (d.kind, d.set, d.plain, d.c)
theorem flat_glob_piece : Flat rep_glob_piece := Flat.via (Flat.pair Flat.i (Flat.pair flat_glob_set (Flat.pair Flat.B Flat.b))) _
def rep_glob_Glob : Rep glob_Glob := Rep.via (Rep.pair Rep.s (Rep.sl rep_glob_piece)) fun d => (d.text, d.pieces)
end Go.Lg
namespace Go.Lg
attribute [local irreducible] w64 toU64 toU8 shlU shrU shlB shrB
/-- a piece: any bytes, or one byte of a set -/
inductive Pc where
  | some
  | one (f : UInt8 → Bool)
/-- does a text match -/
def mt : List Pc → List UInt8 → Bool
  | [], [] => true
  | [], _ :: _ => false
  | .some :: ps, [] => mt ps []
  | .some :: ps, c :: s => mt ps (c :: s) || mt (.some :: ps) s
  | .one _ :: _, [] => false
  | .one f :: ps, c :: s => f c && mt ps s
theorem mt_sn (ps : List Pc) : mt (.some :: ps) [] = mt ps [] := by rw [mt]
theorem mt_sc (ps : List Pc) (c : UInt8) (s : List UInt8) : mt (.some :: ps) (c :: s) = (mt ps (c :: s) || mt (.some :: ps) s) := by rw [mt]
theorem mt_oc (f : UInt8 → Bool) (ps : List Pc) (c : UInt8) (s : List UInt8) : mt (.one f :: ps) (c :: s) = (f c && mt ps s) := by rw [mt]
theorem mt_on (f : UInt8 → Bool) (ps : List Pc) : mt (.one f :: ps) [] = false := by rw [mt]
theorem mt_some (ps : List Pc) : ∀ s, mt (.some :: ps) s = true ↔ ∃ k, k ≤ s.length ∧ mt ps (s.drop k) = true
  | [] => by
    rw [mt_sn]
    exact ⟨fun h => ⟨0, Nat.le_refl _, h⟩, fun ⟨k, _, h⟩ => by simpa using h⟩
  | c :: s => by
    rw [mt_sc, Bool.or_eq_true, mt_some ps s]
    constructor
    · rintro (h | ⟨k, h1, h2⟩)
      · exact ⟨0, Nat.zero_le _, h⟩
      · exact ⟨k + 1, by rw [List.length_cons]; omega, h2⟩
    · rintro ⟨k, h1, h2⟩
      cases k with
      | zero => exact .inl h2
      | succ k => exact .inr ⟨k, by rw [List.length_cons] at h1; omega, h2⟩
/-- pieces that are one byte each -/
def allOne : List Pc → Prop
  | [] => True
  | .some :: _ => False
  | .one _ :: ps => allOne ps
/-- they take just as many bytes -/
theorem mt_ones : ∀ (os ps : List Pc) (s : List UInt8), allOne os → mt (os ++ ps) s = true → os.length ≤ s.length ∧ mt ps (s.drop os.length) = true
  | [], ps, s, _, h => ⟨Nat.zero_le _, h⟩
  | .some :: _, _, _, h, _ => absurd h id
  | .one f :: os, ps, [], _, h => by rw [List.cons_append, mt_on] at h; cases h
  | .one f :: os, ps, c :: s, ho, h => by
    rw [List.cons_append, mt_oc, Bool.and_eq_true] at h
    have := mt_ones os ps s ho h.2
    exact ⟨by simp only [List.length_cons]; omega, by simpa using this.2⟩
/-- any bytes ahead: from further back it matches as well -/
theorem mt_back {ps : List Pc} {s : List UInt8} {a b : Nat} (h : a ≤ b) (hb : b ≤ s.length) (hm : mt (.some :: ps) (s.drop b) = true) : mt (.some :: ps) (s.drop a) = true := by
  obtain ⟨k, h1, h2⟩ := (mt_some ps _).1 hm
  rw [List.length_drop] at h1
  rw [List.drop_drop] at h2
  exact (mt_some ps _).2 ⟨b - a + k, by rw [List.length_drop]; omega, by rw [List.drop_drop, show a + (b - a + k) = b + k by omega]; exact h2⟩
end Go.Lg
namespace Go.Lg
attribute [local irreducible] w64 toU64 toU8 shlU shrU shlB shrB
/-- the word of a set that holds a byte's bit -/
def wdS (S : glob_set) (c : UInt8) : UInt64 := if c.toNat / 64 = 0 then S.a0 else if c.toNat / 64 = 1 then S.a1 else if c.toNat / 64 = 2 then S.a2 else S.a3
def inS (S : glob_set) (c : UInt8) : Bool := decide (((shrU (wdS S c) (((c % 64).toUInt64).toNat)) &&& 1) = 1)
theorem u8_div (c : UInt8) : (c / 64).toNat = c.toNat / 64 ∧ c.toNat / 64 < 4 := by
  have h := UInt8.toNat_lt c
  refine ⟨?_, by omega⟩
  rw [UInt8.toNat_div]; rfl
theorem idx_wd (S : glob_set) (c : UInt8) : idx ([S.a0, S.a1, S.a2, S.a3] : List UInt64) ((c / 64).toNat : Int) = some (wdS S c) := by
  have h := u8_div c
  rw [h.1]
  unfold wdS
  have : c.toNat / 64 = 0 ∨ c.toNat / 64 = 1 ∨ c.toNat / 64 = 2 ∨ c.toNat / 64 = 3 := by omega
  rcases this with e | e | e | e <;> rw [e] <;> rfl
def pcOf (p : glob_piece) : Pc := if p.kind = 1 then .some else .one (inS p.set)
theorem match_round (g : glob_Glob) (s : List UInt8) (hp : g.pieces.length ≤ 1000) (hs : s.length ≤ 1000) (a i k : Nat) (b : Int) (hi : i ≤ g.pieces.length) (ha : a ≤ s.length) (hb : b < 1000) (hb' : -1 ≤ b) :
    glob_Glob_Match_lp1 g s ((a : Int), (i : Int), b, (k : Int)) = some (match (g.pieces[i]?).map pcOf with
      | some .some => .next ((a : Int), ((i + 1 : Nat) : Int), (i : Int), (a : Int))
      | some (.one f) => if ∃ h : a < s.length, f s[a] = true then .next (((a + 1 : Nat) : Int), ((i + 1 : Nat) : Int), b, (k : Int)) else if 0 ≤ b ∧ k < s.length then .next (((k + 1 : Nat) : Int), b + 1, b, ((k + 1 : Nat) : Int)) else .out false
      | none => if a = s.length then .out true else if 0 ≤ b ∧ k < s.length then .next (((k + 1 : Nat) : Int), b + 1, b, ((k + 1 : Nat) : Int)) else .out false) := by
  have back : ∀ (X : Option (Rnd (Int × Int × Int × Int) Unit Bool)), (lett (((decide (0 ≤ b)) && (decide ((k : Int) < (s.length : Int))))) fun t175 =>
      bif t175 then lett (w64 ((k : Int) + 1)) fun from177 => lett (w64 (b + 1)) fun i178 => some (.next (from177, i178, b, from177)) else outr (some false)) = X →
      X = some (if 0 ≤ b ∧ k < s.length then .next (((k + 1 : Nat) : Int), b + 1, b, ((k + 1 : Nat) : Int)) else .out false) := by
    intro X h
    rw [← h, lett_eq]
    by_cases q : 0 ≤ b ∧ k < s.length
    · rw [bifT (by simp only [Bool.and_eq_true, decide_eq_true_eq]; omega), lett_eq, lett_eq, w64_succ (by omega), w64_id (by omega) (by omega), if_pos q]
    · rw [bifF (by rw [Bool.and_eq_false_iff]; simp only [decide_eq_false_iff_not]; omega), if_neg q]; rfl
  unfold glob_Glob_Match_lp1
  dsimp only
  by_cases h : i < g.pieces.length
  · have hx : g.pieces[i]? = some g.pieces[i] := List.getElem?_eq_getElem h
    rw [bifTd (by omega), idx_nat h, bind_some, bind_some, hx]
    by_cases k1 : g.pieces[i].kind = 1
    · have e : (some g.pieces[i]).map pcOf = some .some := by unfold pcOf; rw [Option.map_some, if_pos k1]
      rw [e, bifTd k1, lett_eq, w64_succ (by omega)]
    · have e : (some g.pieces[i]).map pcOf = some (.one (inS g.pieces[i].set)) := by unfold pcOf; rw [Option.map_some, if_neg k1]
      rw [e, bifFd k1]
      dsimp only
      by_cases q : a < s.length
      · rw [bifT (by simp only [Bool.and_eq_true, decide_eq_true_eq]; omega), bind_some, idx_nat q, bind_some, idx_wd, bind_some, lett_eq, bind_some, bind_some]
        by_cases f : inS g.pieces[i].set s[a] = true
        · have f' := f
          unfold inS at f'
          rw [bifT f', lett_eq, lett_eq, w64_succ (by omega), w64_succ (by omega), if_pos ⟨q, f⟩]
        · have f' := f
          unfold inS at f'
          rw [bifF (by simpa using f'), lett_eq, bifF (by rw [Bool.and_eq_false_iff]; simp only [decide_eq_false_iff_not]; omega), if_neg (fun ⟨_, e⟩ => f e)]
          exact back _ rfl
      · rw [bifF (by rw [Bool.and_eq_false_iff]; simp only [decide_eq_false_iff_not]; omega), bind_some, cond_false, lett_eq, bifF (by rw [Bool.and_eq_false_iff]; simp only [decide_eq_false_iff_not]; omega), if_neg (fun ⟨e, _⟩ => q e)]
        exact back _ rfl
  · have hx : g.pieces[i]? = none := List.getElem?_eq_none (by omega)
    rw [bifFd (by omega), bind_some, cond_false, bifF (by rw [Bool.and_eq_false_iff]; simp only [decide_eq_false_iff_not]; omega), bind_some, cond_false, lett_eq, hx]
    dsimp only [Option.map]
    by_cases q : a = s.length
    · rw [bifT (by simp only [Bool.and_eq_true, decide_eq_true_eq]; omega), if_pos q]; rfl
    · rw [bifF (by rw [Bool.and_eq_false_iff]; simp only [decide_eq_false_iff_not]; omega), if_neg q]
      exact back _ rfl
end Go.Lg
namespace Go.Lg
attribute [local irreducible] w64 toU64 toU8 shlU shrU shlB shrB
theorem allOne_snoc : ∀ {os : List Pc} {f : UInt8 → Bool}, allOne os → allOne (os ++ [.one f])
  | [], _, _ => trivial
  | .some :: _, _, h => absurd h id
  | .one _ :: os, f, h => allOne_snoc (os := os) (f := f) h
theorem mt_nc (c : UInt8) (s : List UInt8) : mt [] (c :: s) = false := by rw [mt]
/-- where Match stands: how far the text, how far the pieces; the last piece of any bytes, and where those end -/
inductive MI (ps : List Pc) (s : List UInt8) : Nat → Nat → Int → Nat → Prop
  | no (a i : Nat) : i ≤ ps.length → a ≤ s.length → mt ps s = mt (ps.drop i) (s.drop a) → MI ps s a i (-1) 0
  | yes (a i b k : Nat) (os : List Pc) : i ≤ ps.length → a ≤ s.length → k ≤ s.length → ps.drop b = .some :: (os ++ ps.drop i) → b + 1 + os.length = i → allOne os → a = k + os.length →
      mt ps s = mt (ps.drop b) (s.drop k) → mt (os ++ ps.drop i) (s.drop k) = mt (ps.drop i) (s.drop a) → MI ps s a i (b : Int) k
section
variable {ps : List Pc} {s : List UInt8} {a i k : Nat} {b : Int}
theorem MI.bounds (h : MI ps s a i b k) : i ≤ ps.length ∧ a ≤ s.length ∧ k ≤ s.length ∧ -1 ≤ b ∧ b < (i : Int) := by
  cases h with
  | no h1 h2 _ => exact ⟨h1, h2, Nat.zero_le _, by omega, by omega⟩
  | yes b _ os h1 h2 h3 _ h5 => exact ⟨h1, h2, h3, by omega, by omega⟩
theorem MI.any (h : MI ps s a i b k) (hp : ps[i]? = some .some) : MI ps s a (i + 1) (i : Int) a := by
  obtain ⟨hi, e⟩ := List.getElem?_eq_some_iff.1 hp
  have hd : ps.drop i = .some :: ([] ++ ps.drop (i + 1)) := by rw [List.drop_eq_getElem_cons hi, e]; rfl
  have hb := h.bounds
  refine .yes a (i + 1) i a [] (by omega) hb.2.1 hb.2.1 hd rfl trivial rfl ?_ rfl
  cases h with
  | no h1 h2 h3 => exact h3
  | yes b k os h1 h2 h3 h4 h5 h6 h7 h8 h9 =>
    rw [h8, h4, Bool.eq_iff_iff]
    constructor
    · intro h
      obtain ⟨j, j1, j2⟩ := (mt_some _ _).1 h
      rw [List.length_drop] at j1
      obtain ⟨q1, q2⟩ := mt_ones os (ps.drop i) _ h6 j2
      rw [List.length_drop, List.length_drop] at q1
      rw [List.drop_drop, List.drop_drop] at q2
      rw [hd] at q2 ⊢
      exact mt_back (by omega) (by omega) q2
    · intro h
      exact (mt_some _ _).2 ⟨0, Nat.zero_le _, by rw [List.drop_zero, h9]; exact h⟩
theorem MI.hit {f : UInt8 → Bool} (h : MI ps s a i b k) (hp : ps[i]? = some (.one f)) (ha : a < s.length) (hf : f s[a] = true) : MI ps s (a + 1) (i + 1) b k := by
  obtain ⟨hi, e⟩ := List.getElem?_eq_some_iff.1 hp
  have hd : ps.drop i = .one f :: ps.drop (i + 1) := by rw [List.drop_eq_getElem_cons hi, e]
  have hm : mt (ps.drop i) (s.drop a) = mt (ps.drop (i + 1)) (s.drop (a + 1)) := by rw [hd, List.drop_eq_getElem_cons ha, mt_oc, hf, Bool.true_and]
  cases h with
  | no h1 h2 h3 => exact .no _ _ (by omega) (by omega) (h3.trans hm)
  | yes b k os h1 h2 h3 h4 h5 h6 h7 h8 h9 =>
    have ho : os ++ ps.drop i = (os ++ [.one f]) ++ ps.drop (i + 1) := by rw [hd, List.append_assoc]; rfl
    exact .yes _ _ b k (os ++ [.one f]) (by omega) (by omega) h3 (by rw [h4, ho]) (by rw [List.length_append, List.length_singleton]; omega) (allOne_snoc h6) (by rw [List.length_append, List.length_singleton]; omega) h8 (by rw [← ho, h9, hm])
theorem MI.miss (h : MI ps s a i b k) (hm : mt (ps.drop i) (s.drop a) = false) :
    if 0 ≤ b ∧ k < s.length then ∃ b' : Nat, b = b' ∧ MI ps s (k + 1) (b' + 1) b (k + 1) else mt ps s = false := by
  cases h with
  | no h1 h2 h3 => rw [if_neg (by omega), h3, hm]
  | yes b k os h1 h2 h3 h4 h5 h6 h7 h8 h9 =>
    have h10 : ps.drop (b + 1) = os ++ ps.drop i := by rw [← List.tail_drop, h4]; rfl
    by_cases q : k < s.length
    · rw [if_pos ⟨by omega, q⟩]
      refine ⟨b, rfl, .yes _ _ b _ [] (by omega) (by omega) (by omega) (by rw [h10]; exact h4) rfl trivial rfl ?_ rfl⟩
      rw [h8, h4, List.drop_eq_getElem_cons q, mt_sc, ← List.drop_eq_getElem_cons q, h9, hm, Bool.false_or]
    · have e : s.drop k = [] := List.drop_eq_nil_of_le (by omega)
      rw [if_neg (by omega), h8, h4, e, mt_sn]
      rw [e] at h9
      rw [h9, hm]
theorem MI.done (h : MI ps s a i b k) (hi : i = ps.length) (ha : a = s.length) : mt ps s = true := by
  have hm : mt (ps.drop i) (s.drop a) = true := by rw [List.drop_eq_nil_of_le (by omega), List.drop_eq_nil_of_le (by omega)]; simp [mt]
  cases h with
  | no h1 h2 h3 => rw [h3, hm]
  | yes b k os h1 h2 h3 h4 h5 h6 h7 h8 h9 =>
    rw [h8, h4]
    exact (mt_some _ _).2 ⟨0, Nat.zero_le _, by rw [List.drop_zero, h9, hm]⟩
end
/-- how much is left to do -/
def mu32 (P S : Nat) (i : Nat) (b : Int) (k : Nat) : Nat := ((P : Int) - b).toNat * ((S + 1) * (P + 1)) + (S - k) * (P + 1) + (P - i)
theorem mu_any {P S i k a : Nat} {b : Int} (h1 : b < (i : Int)) (h2 : i < P) : mu32 P S (i + 1) (i : Int) a < mu32 P S i b k := by
  unfold mu32
  have e : ((P : Int) - (i : Int)).toNat + 1 ≤ ((P : Int) - b).toNat := by omega
  have e1 := Nat.mul_le_mul_right ((S + 1) * (P + 1)) e
  have e2 : (S - a) * (P + 1) ≤ S * (P + 1) := Nat.mul_le_mul_right _ (by omega)
  rw [Nat.add_mul ((P : Int) - (i : Int)).toNat 1, Nat.one_mul, Nat.add_mul S 1 (P + 1), Nat.one_mul] at e1
  rw [Nat.add_mul S 1 (P + 1), Nat.one_mul]
  generalize S * (P + 1) = X at *
  generalize (S - a) * (P + 1) = Y at *
  generalize (S - k) * (P + 1) = Z at *
  generalize ((P : Int) - (i : Int)).toNat * (X + (P + 1)) = U at *
  generalize ((P : Int) - b).toNat * (X + (P + 1)) = V at *
  omega
theorem mu_hit {P S i k : Nat} {b : Int} (h2 : i < P) : mu32 P S (i + 1) b k < mu32 P S i b k := by
  unfold mu32; omega
theorem mu_miss {P S i k : Nat} {b : Nat} (h1 : b < P) (hk : k < S) : mu32 P S (b + 1) (b : Int) (k + 1) < mu32 P S i (b : Int) k := by
  unfold mu32
  have e : S - k = (S - (k + 1)) + 1 := by omega
  rw [e, Nat.add_mul (S - (k + 1)) 1 (P + 1), Nat.one_mul]
  generalize (S - (k + 1)) * (P + 1) = Y at *
  omega
theorem match_loop (g : glob_Glob) (s : List UInt8) (hp : g.pieces.length ≤ 1000) (hs : s.length ≤ 1000) :
    loop (glob_Glob_Match_lp1 g s) (0, 0, -1, 0) = some (.out (mt (g.pieces.map pcOf) s)) := by
  let I : Int × Int × Int × Int → Prop := fun st => ∃ (a i k : Nat) (b : Int), st = ((a : Int), (i : Int), b, (k : Int)) ∧ MI (g.pieces.map pcOf) s a i b k
  let μ : Int × Int × Int × Int → Nat := fun st => mu32 g.pieces.length s.length st.2.1.toNat st.2.2.1 st.2.2.2.toNat
  obtain ⟨p, h1, h2⟩ := loop_inv (f := glob_Glob_Match_lp1 g s) I μ (fun p => p = .out (mt (g.pieces.map pcOf) s)) (fun st hst => by
    obtain ⟨a, i, k, b, rfl, hI⟩ := hst
    have hb := hI.bounds
    rw [List.length_map] at hb
    have hr := match_round g s hp hs a i k b hb.1 hb.2.1 (by omega) hb.2.2.2.1
    rw [← List.getElem?_map] at hr
    have miss : mt ((g.pieces.map pcOf).drop i) (s.drop a) = false → ∀ {x : Rnd (Int × Int × Int × Int) Unit Bool}, (if 0 ≤ b ∧ k < s.length then .next (((k + 1 : Nat) : Int), b + 1, b, ((k + 1 : Nat) : Int)) else .out false) = x → glob_Glob_Match_lp1 g s ((a : Int), (i : Int), b, (k : Int)) = some x →
        (∃ s', glob_Glob_Match_lp1 g s ((a : Int), (i : Int), b, (k : Int)) = some (.next s') ∧ I s' ∧ μ s' < μ ((a : Int), (i : Int), b, (k : Int))) ∨ (∃ b', glob_Glob_Match_lp1 g s ((a : Int), (i : Int), b, (k : Int)) = some (.brk b') ∧ (Flow.go b' : Flow Unit Bool) = .out (mt (g.pieces.map pcOf) s)) ∨ (∃ r, glob_Glob_Match_lp1 g s ((a : Int), (i : Int), b, (k : Int)) = some (.out r) ∧ (Flow.out r : Flow Unit Bool) = .out (mt (g.pieces.map pcOf) s)) := by
      intro hm x hx hr
      have h := hI.miss hm
      by_cases q : 0 ≤ b ∧ k < s.length
      · rw [if_pos q] at h hx
        obtain ⟨b', rfl, h'⟩ := h
        subst hx
        refine .inl ⟨_, hr, ⟨k + 1, b' + 1, k + 1, (b' : Int), by simp, h'⟩, ?_⟩
        have e : (((b' : Int) + 1).toNat) = b' + 1 := by omega
        show mu32 _ _ ((b' : Int) + 1).toNat _ ((k + 1 : Nat) : Int).toNat < mu32 _ _ (i : Int).toNat _ (k : Int).toNat
        rw [e, Int.toNat_natCast, Int.toNat_natCast, Int.toNat_natCast]
        exact mu_miss (by omega) q.2
      · rw [if_neg q] at h hx
        subst hx
        exact .inr (.inr ⟨false, hr, by rw [h]⟩)
    cases hq : (g.pieces.map pcOf)[i]? with
    | none =>
      have hi : i = (g.pieces.map pcOf).length := by
        have := List.getElem?_eq_none_iff.1 hq
        rw [List.length_map] at *
        omega
      rw [hq] at hr
      dsimp only at hr
      by_cases q : a = s.length
      · rw [if_pos q] at hr
        exact .inr (.inr ⟨true, hr, by rw [hI.done hi q]⟩)
      · rw [if_neg q] at hr
        refine miss ?_ rfl hr
        rw [List.drop_eq_nil_of_le (by omega), List.drop_eq_getElem_cons (by omega)]
        exact mt_nc _ _
    | some pc =>
      have hi : i < g.pieces.length := by
        have := (List.getElem?_eq_some_iff.1 hq).1
        rwa [List.length_map] at this
      rw [hq] at hr
      cases pc with
      | some =>
        refine .inl ⟨_, hr, ⟨a, i + 1, a, (i : Int), rfl, hI.any hq⟩, ?_⟩
        show mu32 _ _ ((i + 1 : Nat) : Int).toNat _ (a : Int).toNat < mu32 _ _ (i : Int).toNat _ (k : Int).toNat
        rw [Int.toNat_natCast, Int.toNat_natCast, Int.toNat_natCast, Int.toNat_natCast]
        exact mu_any hb.2.2.2.2 hi
      | one f =>
        dsimp only at hr
        by_cases q : ∃ h : a < s.length, f s[a] = true
        · rw [if_pos q] at hr
          obtain ⟨q1, q2⟩ := q
          refine .inl ⟨_, hr, ⟨a + 1, i + 1, k, b, rfl, hI.hit hq q1 q2⟩, ?_⟩
          show mu32 _ _ ((i + 1 : Nat) : Int).toNat _ (k : Int).toNat < mu32 _ _ (i : Int).toNat _ (k : Int).toNat
          rw [Int.toNat_natCast, Int.toNat_natCast, Int.toNat_natCast]
          exact mu_hit hi
        · rw [if_neg q] at hr
          refine miss ?_ rfl hr
          obtain ⟨hi', e⟩ := List.getElem?_eq_some_iff.1 hq
          rw [List.drop_eq_getElem_cons hi', e]
          by_cases q1 : a < s.length
          · rw [List.drop_eq_getElem_cons q1, mt_oc]
            cases hf : f s[a] with
            | false => rfl
            | true => exact absurd ⟨q1, hf⟩ q
          · have e2 : s.drop a = [] := List.drop_eq_nil_of_le (by omega)
            rw [e2, mt_on]) (0, 0, -1, 0) ⟨0, 0, 0, -1, rfl, .no 0 0 (Nat.zero_le _) (Nat.zero_le _) rfl⟩
  rw [h1, h2]
end Go.Lg
namespace Go.Lg
attribute [local irreducible] w64 toU64 toU8 shlU shrU shlB shrB
theorem shr_bit (x : UInt64) {k : Nat} (h : k < 64) : decide ((shrU x k &&& 1) = 1) = x.toNat.testBit k := by
  rw [Nat.testBit_eq_decide_div_mod_eq, decide_eq_decide]
  have e : (shrU x k &&& 1).toNat = x.toNat / 2 ^ k % 2 := by
    unfold shrU
    rw [UInt64.toNat_and, UInt64.toNat_ofNat', Nat.min_eq_left (by omega), show (1 : UInt64).toNat = 1 from rfl, Nat.and_one_is_mod]
    have := UInt64.toNat_lt x
    rw [Nat.mod_eq_of_lt (a := x.toNat / 2 ^ k) (Nat.lt_of_le_of_lt (Nat.div_le_self _ _) this)]
  constructor
  · intro h; rw [← e, h]; rfl
  · intro h; apply UInt64.toNat_inj.1; rw [e, h]; rfl
theorem shl_one {k : Nat} (h : k < 64) : (shlU 1 k).toNat = 2 ^ k := by
  unfold shlU
  rw [UInt64.toNat_ofNat', Nat.min_eq_left (by omega), show (1 : UInt64).toNat = 1 from rfl, Nat.one_mul]
  exact Nat.mod_eq_of_lt (Nat.pow_lt_pow_right (by omega) h)
theorem u8_mod64 (c : UInt8) : ((c % 64).toUInt64).toNat = c.toNat % 64 := by
  rw [UInt8.toNat_toUInt64, UInt8.toNat_mod]; rfl
theorem inS_eq (S : glob_set) (c : UInt8) : inS S c = (wdS S c).toNat.testBit (c.toNat % 64) := by
  unfold inS
  rw [u8_mod64, shr_bit _ (Nat.mod_lt _ (by omega))]
/-- a set with a byte more -/
def addSt (S : glob_set) (c : UInt8) : glob_set :=
  let x := wdS S c ||| shlU 1 (((c % 64).toUInt64).toNat)
  ⟨up4 ((c / 64).toNat : Int) 0 x S.a0, up4 ((c / 64).toNat : Int) 1 x S.a1, up4 ((c / 64).toNat : Int) 2 x S.a2, up4 ((c / 64).toNat : Int) 3 x S.a3⟩
theorem wd_add (S : glob_set) (c d : UInt8) : wdS (addSt S c) d = if d.toNat / 64 = c.toNat / 64 then wdS S c ||| shlU 1 (((c % 64).toUInt64).toNat) else wdS S d := by
  have hc := u8_div c
  have hd := u8_div d
  unfold addSt
  rw [hc.1]
  have e1 : c.toNat / 64 = 0 ∨ c.toNat / 64 = 1 ∨ c.toNat / 64 = 2 ∨ c.toNat / 64 = 3 := by omega
  have e2 : d.toNat / 64 = 0 ∨ d.toNat / 64 = 1 ∨ d.toNat / 64 = 2 ∨ d.toNat / 64 = 3 := by omega
  generalize shlU 1 (((c % 64).toUInt64).toNat) = y
  unfold wdS up4
  rcases e1 with e1 | e1 | e1 | e1 <;> rcases e2 with e2 | e2 | e2 | e2 <;> rw [e1, e2] <;> rfl
theorem inS_add (S : glob_set) (c d : UInt8) : inS (addSt S c) d = (decide (d = c) || inS S d) := by
  rw [inS_eq, inS_eq, wd_add]
  by_cases h : d.toNat / 64 = c.toNat / 64
  · rw [if_pos h, UInt64.toNat_or, Nat.testBit_or, u8_mod64, shl_one (Nat.mod_lt _ (by omega)), Nat.testBit_two_pow]
    have e : wdS S c = wdS S d := by unfold wdS; rw [h]
    have e2 : decide (c.toNat % 64 = d.toNat % 64) = decide (d = c) := by
      rw [decide_eq_decide]
      constructor
      · intro q; apply UInt8.toNat_inj.1; omega
      · intro q; rw [q]
    rw [e, e2, Bool.or_comm]
  · have e2 : decide (d = c) = false := decide_eq_false fun q => h (by rw [q])
    rw [if_neg h, e2, Bool.false_or]
/-- all from a byte on, so many -/
def spanS (S : glob_set) : Nat → Nat → glob_set
  | _, 0 => S
  | lo, n + 1 => spanS (addSt S (toU8 (lo : Int))) (lo + 1) n
/-- all others -/
def notS (S : glob_set) : glob_set := ⟨~~~S.a0, ~~~S.a1, ~~~S.a2, ~~~S.a3⟩
def nilS : glob_set := ⟨0, 0, 0, 0⟩
theorem inS_nil (c : UInt8) : inS nilS c = false := by
  rw [inS_eq]
  have : wdS nilS c = 0 := by
    unfold wdS nilS
    dsimp only
    split
    · rfl
    · split
      · rfl
      · split <;> rfl
  rw [this]; exact Nat.zero_testBit _
def fullS : glob_set := spanS nilS 0 256
/-! ### as rows -/
/-! ### the loops -/
/-- adding a byte's bit, as the program has it -/
theorem add_step (S : glob_set) (c : UInt8) {β : Type} (F : UInt64 × UInt64 × UInt64 × UInt64 → Option β) :
    ((idx ([S.a0, S.a1, S.a2, S.a3] : List UInt64) ((c / 64).toNat : Int)).bind fun e260 =>
     (idx ([S.a0, S.a1, S.a2, S.a3] : List UInt64) ((c / 64).toNat : Int)).bind fun e263 =>
     lett ((e260 ||| (shlU (1 : UInt64) (((c % 64).toUInt64).toNat)))) fun t265 =>
     some ((up4 ((c / 64).toNat : Int) 0 t265 S.a0), (up4 ((c / 64).toNat : Int) 1 t265 S.a1), (up4 ((c / 64).toNat : Int) 2 t265 S.a2), (up4 ((c / 64).toNat : Int) 3 t265 S.a3)) : Option (UInt64 × UInt64 × UInt64 × UInt64)).bind F =
      F ((addSt S c).a0, (addSt S c).a1, (addSt S c).a2, (addSt S c).a3) := by
  rw [idx_wd, bind_some, bind_some, lett_eq, bind_some]; rfl
theorem span_g (e : UInt8) : ∀ (n lo : Nat) (S : glob_set), lo + n = e.toNat + 1 → loop (glob_class_lp2 e) (S.a0, S.a1, S.a2, S.a3, (lo : Int)) = some (.go ((spanS S lo n).a0, (spanS S lo n).a1, (spanS S lo n).a2, (spanS S lo n).a3))
  | 0, lo, S, h => loop_brk (by unfold glob_class_lp2; dsimp only; rw [bifFd (by omega)]; rfl)
  | n + 1, lo, S, h => by
    have hs : glob_class_lp2 e (S.a0, S.a1, S.a2, S.a3, (lo : Int)) = some (.next ((addSt S (toU8 (lo : Int))).a0, (addSt S (toU8 (lo : Int))).a1, (addSt S (toU8 (lo : Int))).a2, (addSt S (toU8 (lo : Int))).a3, ((lo + 1 : Nat) : Int))) := by
      have := UInt8.toNat_lt e
      unfold glob_class_lp2
      dsimp only
      rw [bifTd (by omega), add_step, lett_eq, w64_succ (by omega)]
    rw [loop_next hs, span_g e n (lo + 1) _ (by omega)]; rfl
theorem span_n : ∀ (n lo : Nat) (S : glob_set), lo + n = 256 → loop glob_next_lp1 (S.a0, S.a1, S.a2, S.a3, (lo : Int)) = some (.go ((spanS S lo n).a0, (spanS S lo n).a1, (spanS S lo n).a2, (spanS S lo n).a3))
  | 0, lo, S, h => loop_brk (by unfold glob_next_lp1; dsimp only; rw [bifFd (by rw [show (255 : UInt8).toNat = 255 from rfl]; omega)]; rfl)
  | n + 1, lo, S, h => by
    have hs : glob_next_lp1 (S.a0, S.a1, S.a2, S.a3, (lo : Int)) = some (.next ((addSt S (toU8 (lo : Int))).a0, (addSt S (toU8 (lo : Int))).a1, (addSt S (toU8 (lo : Int))).a2, (addSt S (toU8 (lo : Int))).a3, ((lo + 1 : Nat) : Int))) := by
      unfold glob_next_lp1
      dsimp only
      rw [bifTd (by rw [show (255 : UInt8).toNat = 255 from rfl]; omega), add_step, lett_eq, w64_succ (by omega)]
    rw [loop_next hs, span_n n (lo + 1) _ (by omega)]; rfl
theorem not_g (S : glob_set) : loop glob_class_lp3 (S.a0, S.a1, S.a2, S.a3, 0) = some (.go ((notS S).a0, (notS S).a1, (notS S).a2, (notS S).a3)) := by
  have st : ∀ (a b c d x : UInt64) (i : Nat), i < 4 → idx ([a, b, c, d] : List UInt64) (i : Int) = some x → glob_class_lp3 (a, b, c, d, (i : Int)) = some (.next (up4 (i : Int) 0 (~~~x) a, up4 (i : Int) 1 (~~~x) b, up4 (i : Int) 2 (~~~x) c, up4 (i : Int) 3 (~~~x) d, ((i + 1 : Nat) : Int))) := by
    intro a b c d x i hi hx
    unfold glob_class_lp3
    dsimp only
    rw [bifTd (by omega), hx, bind_some, bind_some, lett_eq, w64_succ (by omega)]
  have s0 := loop_next (st S.a0 S.a1 S.a2 S.a3 S.a0 0 (by omega) rfl)
  have s1 := loop_next (st (~~~S.a0) S.a1 S.a2 S.a3 S.a1 1 (by omega) rfl)
  have s2 := loop_next (st (~~~S.a0) (~~~S.a1) S.a2 S.a3 S.a2 2 (by omega) rfl)
  have s3 := loop_next (st (~~~S.a0) (~~~S.a1) (~~~S.a2) S.a3 S.a3 3 (by omega) rfl)
  exact s0.trans (s1.trans (s2.trans (s3.trans (loop_brk (by unfold glob_class_lp3; dsimp only; rw [bifFd (by omega)]; rfl)))))
end Go.Lg
namespace Go.Lg
attribute [local irreducible] w64 toU64 toU8 shlU shrU shlB shrB
/-- how far off the "]" is that ends a set -/
def endL : List UInt8 → Option Nat
  | [] => none
  | [c] => if c = 93 then some 0 else none
  | c :: d :: r => if c = 93 then some 0 else if c = 92 then (endL r).map (· + 2) else (endL (d :: r)).map (· + 1)
/-- the byte ahead, and how many bytes it takes -/
def mem32 : List UInt8 → Option (UInt8 × Nat)
  | [] => none
  | [c] => if c = 92 then none else some (c, 1)
  | c :: d :: _ => if c = 92 then some (d, 2) else some (c, 1)
theorem mem32_1 (c : UInt8) : mem32 [c] = if c = 92 then none else some (c, 1) := rfl
theorem mem32_2 (c d : UInt8) (r : List UInt8) : mem32 (c :: d :: r) = if c = 92 then some (d, 2) else some (c, 1) := rfl
theorem endL_1 (c : UInt8) : endL [c] = if c = 93 then some 0 else none := rfl
theorem endL_2 (c d : UInt8) (r : List UInt8) : endL (c :: d :: r) = if c = 93 then some 0 else if c = 92 then (endL r).map (· + 2) else (endL (d :: r)).map (· + 1) := rfl
theorem endL_93 (r : List UInt8) : endL (93 :: r) = some 0 := by cases r <;> simp [endL]
theorem endL_mem {l : List UInt8} {a : UInt8} {m : Nat} (h : mem32 l = some (a, m)) (hc : l.head? ≠ some 93) : endL l = (endL (l.drop m)).map (· + m) := by
  match l, h, hc with
  | [c], h, hc =>
    have hc' : c ≠ 93 := fun e => hc (by rw [e]; rfl)
    rw [mem32_1] at h
    split at h
    · cases h
    · simp only [Option.some.injEq, Prod.mk.injEq] at h
      obtain ⟨rfl, rfl⟩ := h
      simp [endL, hc']
  | c :: d :: r, h, hc =>
    have hc' : c ≠ 93 := fun e => hc (by rw [e]; rfl)
    rw [mem32_2] at h
    split at h
    · rename_i q
      simp only [Option.some.injEq, Prod.mk.injEq] at h
      obtain ⟨rfl, rfl⟩ := h
      simp [endL, hc', q]
    · rename_i q
      simp only [Option.some.injEq, Prod.mk.injEq] at h
      obtain ⟨rfl, rfl⟩ := h
      simp [endL, hc', q]
theorem endL_some {l : List UInt8} {k : Nat} (h : endL l = some k) : (l.head? = some 93 ∧ k = 0) ∨ (l.head? ≠ some 93 ∧ ∃ a m, mem32 l = some (a, m) ∧ 1 ≤ m ∧ m ≤ k ∧ endL (l.drop m) = some (k - m)) := by
  match l, h with
  | [c], h =>
    rw [endL_1] at h
    split at h
    · rename_i q
      cases h
      exact .inl ⟨by rw [q]; rfl, rfl⟩
    · cases h
  | c :: d :: r, h =>
    rw [endL_2] at h
    split at h
    · rename_i q
      cases h
      exact .inl ⟨by rw [q]; rfl, rfl⟩
    · rename_i q
      refine .inr ⟨fun e => q (by simpa using e), ?_⟩
      split at h
      · rename_i q2
        obtain ⟨j, h1, rfl⟩ := Option.map_eq_some_iff.1 h
        exact ⟨d, 2, by simp [mem32, q2], by omega, by omega, by simpa using h1⟩
      · rename_i q2
        obtain ⟨j, h1, rfl⟩ := Option.map_eq_some_iff.1 h
        exact ⟨c, 1, by simp [mem32, q2], by omega, by omega, by simpa using h1⟩
theorem mem32_len {l : List UInt8} {a : UInt8} {m : Nat} (h : mem32 l = some (a, m)) : 1 ≤ m ∧ m ≤ 2 ∧ m ≤ l.length := by
  match l, h with
  | [c], h =>
    rw [mem32_1] at h
    split at h <;> simp at h
    obtain ⟨_, rfl⟩ := h
    simp
  | c :: d :: r, h =>
    rw [mem32_2] at h
    split at h <;> simp at h <;> obtain ⟨_, rfl⟩ := h <;> simp
theorem mem32_app {l : List UInt8} {a : UInt8} {m : Nat} (q : List UInt8) (h : mem32 l = some (a, m)) : mem32 (l ++ q) = some (a, m) := by
  match l, h with
  | [c], h =>
    rw [mem32_1] at h
    split at h
    · cases h
    · rename_i e
      cases q with
      | nil => simpa [mem32, e] using h
      | cons x q => simpa [mem32, e] using h
  | c :: d :: r, h => simpa [mem32] using h
theorem endL_app {l : List UInt8} (q : List UInt8) : ∀ {k : Nat}, endL l = some k → endL (l ++ q) = some k := by
  have key : ∀ n (l : List UInt8) k, l.length ≤ n → endL l = some k → endL (l ++ q) = some k := by
    intro n
    induction n with
    | zero => intro l k hl h; have : l = [] := List.eq_nil_of_length_eq_zero (by omega); subst this; cases h
    | succ n ih =>
      intro l k hl h
      rcases endL_some h with ⟨h1, rfl⟩ | ⟨h1, a, m, h2, h3, h4, h5⟩
      · cases l with
        | nil => cases h1
        | cons c r => simp at h1; subst h1; exact endL_93 _
      · have hm := mem32_len h2
        have h6 := ih (l.drop m) _ (by rw [List.length_drop]; omega) h5
        have h7 := mem32_app q h2
        have h8 : (l ++ q).head? ≠ some 93 := by
          cases l with
          | nil => cases h2
          | cons c r => simpa using h1
        rw [endL_mem h7 h8, List.drop_append_of_le_length hm.2.2, h6, Option.map_some]
        congr 1; omega
  intro k h
  exact key _ l _ (Nat.le_refl _) h
def offS (k : Nat) (o : Option (Nat ⊕ glob_set)) : Option (Nat ⊕ glob_set) := o.map fun
  | .inl a => .inl (k + a)
  | .inr S => .inr S
/-- is a "-" there that stands between two bytes -/
def dash (l : List UInt8) : Option Bool := l.head?.bind fun x => if x = 45 then l.tail.head?.bind fun y => some (decide (y ≠ 93 ∧ y ≠ 45)) else some false
/-- what a set holds beside those that are known; or how far off its fault is -/
def clsS : Nat → glob_set → List UInt8 → Option (Nat ⊕ glob_set)
  | 0, _, _ => none
  | n + 1, S, l => l.head?.bind fun c =>
    if c = 93 then some (.inr S)
    else if c = 45 then l.tail.head?.bind fun d => if d = 93 then offS 1 (clsS n (addSt S 45) l.tail) else some (.inl 0)
    else (mem32 l).bind fun x => (dash (l.drop x.2)).bind fun b =>
      if b = true then (mem32 ((l.drop x.2).tail)).bind fun y =>
        if y.1 < x.1 then some (.inl 0) else offS (x.2 + 1 + y.2) (clsS n (spanS S x.1.toNat (y.1.toNat + 1 - x.1.toNat)) (l.drop (x.2 + 1 + y.2)))
      else offS x.2 (clsS n (spanS S x.1.toNat 1) (l.drop x.2))
theorem dash_app {l : List UInt8} {b : Bool} (q : List UInt8) (h : dash l = some b) : dash (l ++ q) = some b := by
  match l, h with
  | [c], h =>
    unfold dash at h ⊢
    simp only [List.head?_cons, Option.bind_some] at h
    split at h
    · cases h
    · rename_i e; simpa [e] using h
  | c :: d :: r, h => simpa [dash] using h
theorem clsS_app (q : List UInt8) : ∀ (n : Nat) (S : glob_set) (l : List UInt8) (r : Nat ⊕ glob_set), clsS n S l = some r → clsS n S (l ++ q) = some r := by
  intro n
  induction n with
  | zero => intro S l r h; cases h
  | succ n ih =>
    have ihO : ∀ k S l r, offS k (clsS n S l) = some r → offS k (clsS n S (l ++ q)) = some r := by
      intro k S l r h
      obtain ⟨r', h1, h2⟩ := Option.map_eq_some_iff.1 h
      unfold offS
      rw [ih _ _ _ h1, Option.map_some, h2]
    intro S l r h
    unfold clsS at h ⊢
    obtain ⟨c, hc, h⟩ := bnd h
    have e1 : (l ++ q).head? = some c := by
      cases l with
      | nil => cases hc
      | cons _ _ => simpa using hc
    have e2 : (l ++ q).tail = l.tail ++ q := by
      cases l with
      | nil => cases hc
      | cons _ _ => rfl
    rw [e1, bind_some]
    split at h
    · rename_i p; rw [if_pos p]; exact h
    · rename_i p
      rw [if_neg p]
      split at h
      · rename_i p2
        rw [if_pos p2]
        obtain ⟨d, hd, h⟩ := bnd h
        have e3 : (l.tail ++ q).head? = some d := by
          cases ht : l.tail with
          | nil => rw [ht] at hd; cases hd
          | cons _ _ => rw [ht] at hd; simpa using hd
        rw [e2, e3, bind_some]
        split at h
        · rename_i p3; rw [if_pos p3]; exact ihO _ _ _ _ h
        · rename_i p3; rw [if_neg p3]; exact h
      · rename_i p2
        rw [if_neg p2]
        obtain ⟨⟨a, m⟩, hm, h⟩ := bnd h
        have hl := mem32_len hm
        rw [mem32_app q hm, bind_some]
        dsimp only at h ⊢
        obtain ⟨b, hb, h⟩ := bnd h
        rw [List.drop_append_of_le_length hl.2.2, dash_app q hb, bind_some]
        cases b with
        | false => exact ihO _ _ _ _ h
        | true =>
          rw [if_pos rfl] at h ⊢
          obtain ⟨⟨d, m2⟩, hm2, h⟩ := bnd h
          have hl2 := mem32_len hm2
          rw [List.length_tail, List.length_drop] at hl2
          have e4 : (l.drop m ++ q).tail = (l.drop m).tail ++ q := by
            cases hx : l.drop m with
            | nil => rw [hx] at hm2; cases hm2
            | cons _ _ => rfl
          rw [e4, mem32_app q hm2, bind_some]
          dsimp only at h ⊢
          split at h
          · rename_i p3; rw [if_pos p3]; exact h
          · rename_i p3
            rw [if_neg p3, List.drop_append_of_le_length (by omega)]
            exact ihO _ _ _ _ h
theorem dash_end {l : List UInt8} {k : Nat} (h : endL l = some k) : ∃ b, dash l = some b ∧ (b = true → 2 ≤ k ∧ l.head? = some 45 ∧ endL l.tail = some (k - 1) ∧ l.tail.head? ≠ some 93) := by
  match l, h with
  | [c], h =>
    rw [endL_1] at h
    split at h
    · rename_i q; subst q; exact ⟨false, rfl, fun h => by cases h⟩
    · cases h
  | c :: d :: r, h =>
    by_cases q : c = 45
    · subst q
      refine ⟨decide (d ≠ 93 ∧ d ≠ 45), by simp [dash], fun hb => ?_⟩
      rw [decide_eq_true_eq] at hb
      simp [endL] at h
      obtain ⟨j, h1, rfl⟩ := h
      refine ⟨?_, rfl, by simpa using h1, by simpa using hb.1⟩
      rcases endL_some h1 with ⟨h2, rfl⟩ | ⟨h2, a, m, h3, h4, h5, h6⟩
      · simp at h2; exact absurd h2 hb.1
      · omega
    · exact ⟨false, by simp [dash, q], fun h => by cases h⟩
theorem clsS_total : ∀ (n : Nat) (S : glob_set) (l : List UInt8) (k : Nat), endL l = some k → k < n → ∃ r, clsS n S l = some r := by
  intro n
  induction n with
  | zero => intro S l k _ h; omega
  | succ n ih =>
    have ihO : ∀ j S l k, endL l = some k → k < n → ∃ r, offS j (clsS n S l) = some r := by
      intro j S l k h1 h2
      obtain ⟨r, h3⟩ := ih S l k h1 h2
      rw [h3]; exact ⟨_, rfl⟩
    intro S l k h hk
    unfold clsS
    rcases endL_some h with ⟨h1, rfl⟩ | ⟨h1, a, m, h2, h3, h4, h5⟩
    · rw [h1, bind_some, if_pos rfl]; exact ⟨_, rfl⟩
    · cases hc : l.head? with
      | none => rw [List.head?_eq_none_iff] at hc; rw [hc] at h2; cases h2
      | some c =>
        rw [hc] at h1
        have h1' : c ≠ 93 := fun e => h1 (by rw [e])
        rw [bind_some, if_neg h1']
        by_cases q : c = 45
        · rw [if_pos q]
          match l, hc, h2, h5 with
          | [x], hc, h2, h5 =>
            simp at hc; subst hc; subst q
            simp [mem32] at h2
            obtain ⟨rfl, rfl⟩ := h2
            cases h5
          | x :: d :: r, hc, h2, h5 =>
            simp at hc; subst hc; subst q
            simp [mem32] at h2
            obtain ⟨rfl, rfl⟩ := h2
            simp only [List.tail_cons, List.head?_cons, Option.bind_some]
            split
            · exact ihO _ _ _ _ h5 (by omega)
            · exact ⟨_, rfl⟩
        · rw [if_neg q, h2, bind_some]
          dsimp only
          obtain ⟨b, hb, hb2⟩ := dash_end h5
          rw [hb, bind_some]
          cases b with
          | false => exact ihO _ _ _ _ h5 (by omega)
          | true =>
            obtain ⟨g1, g2, g3, g4⟩ := hb2 rfl
            rw [if_pos rfl]
            rcases endL_some g3 with ⟨e1, _⟩ | ⟨_, d, m2, f1, f2, f3, f4⟩
            · exact absurd e1 g4
            · rw [f1, bind_some]
              dsimp only
              split
              · exact ⟨_, rfl⟩
              · rw [← List.drop_one, List.drop_drop, List.drop_drop] at f4
                refine ihO _ _ _ _ (by rw [show m + 1 + m2 = m + (1 + m2) by omega]; exact f4) (by omega)
end Go.Lg
namespace Go.Lg
attribute [local irreducible] w64 toU64 toU8 shlU shrU shlB shrB
section
variable {s : List UInt8} {p : Nat} {c : UInt8}
theorem ix_lt (h : (s.drop p).head? = some c) : p < s.length := by
  rw [List.head?_drop] at h
  exact (List.getElem?_eq_some_iff.1 h).1
theorem ix (h : (s.drop p).head? = some c) : idx s (p : Int) = some c := by
  rw [List.head?_drop] at h
  unfold idx
  rw [if_pos (by omega), Int.toNat_natCast]; exact h
theorem ix_tail (h : (s.drop p).tail.head? = some c) : (s.drop (p + 1)).head? = some c := by
  rwa [List.tail_drop] at h
end
theorem member_eq {s : List UInt8} {p m : Nat} {a : UInt8} (hs : s.length ≤ 1000) (h : mem32 (s.drop p) = some (a, m)) : glob_member s (p : Int) = some (a, (m : Int)) := by
  unfold glob_member
  cases hl : s.drop p with
  | nil => rw [hl] at h; cases h
  | cons c r =>
    have h0 : (s.drop p).head? = some c := by rw [hl]; rfl
    have hp := ix_lt h0
    rw [ix h0, bind_some]
    by_cases q : c = 92
    · rw [bifTd q, w64_succ (by omega)]
      cases r with
      | nil => rw [hl] at h; simp [mem32, q] at h
      | cons d r =>
        rw [ix (ix_tail (c := d) (by rw [hl]; rfl)), bind_some]
        rw [hl] at h
        simp [mem32, q] at h
        rw [h.1, ← h.2]; rfl
    · rw [bifFd q, bind_some]
      rw [hl] at h
      cases r with
      | nil => simp [mem32, q] at h; rw [h.1, ← h.2]; rfl
      | cons d r => simp [mem32, q] at h; rw [h.1, ← h.2]; rfl
theorem dash_g {s : List UInt8} {k : Nat} {b : Bool} {β : Type} (hs : s.length ≤ 1000) (h : dash (s.drop k) = some b) (F : Bool → Option β) :
    ((idx s (k : Int)).bind fun c165 =>
     (bif decide (c165 = 45) then
     (idx s (w64 ((k : Int) + 1))).bind fun c170 =>
     some (!decide (c170 = 93))
     else
     some false : Option Bool).bind fun x166 =>
     (bif x166 then
     (idx s (w64 ((k : Int) + 1))).bind fun c175 =>
     some (!decide (c175 = 45))
     else
     some false : Option Bool).bind F) = F b := by
  unfold dash at h
  obtain ⟨x, hx, h⟩ := bnd h
  have hp := ix_lt hx
  rw [ix hx, bind_some]
  by_cases q : x = 45
  · rw [if_pos q] at h
    obtain ⟨y, hy, h⟩ := bnd h
    rw [bifTd q, w64_succ (by omega), ix (ix_tail hy), bind_some, bind_some]
    cases h
    by_cases q1 : y = 93
    · simp [q1]
    · by_cases q2 : y = 45
      · simp [q2]
      · simp [q1, q2]
  · rw [if_neg q] at h
    cases h
    rw [bifFd q, bind_some]; rfl
theorem add45 (S : glob_set) : addSt S 45 = ⟨S.a0 ||| shlU 1 (((45 : UInt8).toUInt64).toNat), S.a1, S.a2, S.a3⟩ := rfl
theorem offS_some {k : Nat} {o : Option (Nat ⊕ glob_set)} {r : Nat ⊕ glob_set} (h : offS k o = some r) : (∃ a, o = some (.inl a) ∧ r = .inl (k + a)) ∨ (∃ S, o = some (.inr S) ∧ r = .inr S) := by
  obtain ⟨x, h1, h2⟩ := Option.map_eq_some_iff.1 h
  cases x with
  | inl a => exact .inl ⟨a, h1, h2.symm⟩
  | inr S => exact .inr ⟨S, h1, h2.symm⟩
/-- what the program's loop over a set's things comes to -/
def GLo (s : List UInt8) (S : glob_set) (p : Nat) : Nat ⊕ glob_set → Prop
  | .inl o => ∃ T, loop (glob_class_lp1 s) (S.a0, S.a1, S.a2, S.a3, (p : Int)) = some (.out (.out (⟨0, T, false, 0⟩, 0, ⟨((p + o : Nat) : Int), 3⟩)))
  | .inr T => ∃ k, endL (s.drop p) = some k ∧ loop (glob_class_lp1 s) (S.a0, S.a1, S.a2, S.a3, (p : Int)) = some (.go (T.a0, T.a1, T.a2, T.a3, ((p + k : Nat) : Int)))
theorem GLo.step {s : List UInt8} {S T : glob_set} {p m : Nat} {o : Option (Nat ⊕ glob_set)} {r : Nat ⊕ glob_set} (hn : glob_class_lp1 s (S.a0, S.a1, S.a2, S.a3, (p : Int)) = some (.next (T.a0, T.a1, T.a2, T.a3, ((p + m : Nat) : Int))))
    (he : endL (s.drop p) = (endL (s.drop (p + m))).map (· + m)) (h : offS m o = some r) (ih : ∀ r', o = some r' → GLo s T (p + m) r') : GLo s S p r := by
  rcases offS_some h with ⟨a, h1, rfl⟩ | ⟨U, h1, rfl⟩
  · obtain ⟨V, hV⟩ := ih _ h1
    exact ⟨V, by rw [loop_next hn, hV, Nat.add_assoc]⟩
  · obtain ⟨k, hk, hV⟩ := ih _ h1
    exact ⟨k + m, by rw [he, hk]; rfl, by rw [loop_next hn, hV, Nat.add_assoc, Nat.add_comm m k]⟩
theorem cls_g (s : List UInt8) (hs : s.length ≤ 1000) : ∀ (n : Nat) (S : glob_set) (p : Nat) (r : Nat ⊕ glob_set), clsS n S (s.drop p) = some r → GLo s S p r := by
  intro n
  induction n with
  | zero => intro S p r h; cases h
  | succ n ih =>
    intro S p r h
    unfold clsS at h
    obtain ⟨c, hc, h⟩ := bnd h
    have hp := ix_lt hc
    split at h
    · rename_i q
      cases h
      refine ⟨0, ?_, loop_brk ?_⟩
      · cases hl : s.drop p with
        | nil => rw [hl] at hc; cases hc
        | cons x r => rw [hl] at hc; simp at hc; rw [hc, q]; exact endL_93 _
      · unfold glob_class_lp1
        dsimp only
        rw [ix hc, bind_some, bifF (by simp [q])]; rfl
    · rename_i q
      split at h
      · rename_i q2
        obtain ⟨d, hd, h⟩ := bnd h
        have hp2 := ix_lt (ix_tail hd)
        split at h
        · rename_i q3
          rw [List.tail_drop] at h
          refine GLo.step (T := addSt S 45) ?_ ?_ h (fun r' => ih _ _ _)
          · unfold glob_class_lp1
            dsimp only
            rw [ix hc, bind_some, bifT (by simp [q]), bind_some, bifTd q2, w64_succ (by omega), ix (ix_tail hd), bind_some, bifF (by simp [q3]), lett_eq, bind_some, lett_eq, flow_go, add45]
          · have : mem32 (s.drop p) = some (45, 1) := by
              cases hl : s.drop p with
              | nil => rw [hl] at hc; cases hc
              | cons x r =>
                rw [hl] at hc hd
                simp at hc hd
                cases r with
                | nil => cases hd
                | cons y r => rw [hc, q2]; simp [mem32]
            rw [endL_mem this (by rw [hc]; simp [q]), List.drop_drop]
        · rename_i q3
          cases h
          refine ⟨S, loop_out ?_⟩
          unfold glob_class_lp1
          dsimp only
          rw [ix hc, bind_some, bifT (by simp [q]), bind_some, bifTd q2, w64_succ (by omega), ix (ix_tail hd), bind_some, bifT (by simp [q3])]
          rfl
      · rename_i q2
        obtain ⟨⟨a, m⟩, hm, h⟩ := bnd h
        have hl := mem32_len hm
        rw [List.length_drop] at hl
        dsimp only at h
        obtain ⟨b, hb, h⟩ := bnd h
        rw [List.drop_drop] at h hb
        have em : endL (s.drop p) = (endL (s.drop (p + m))).map (· + m) := by rw [endL_mem hm (by rw [hc]; simp [q]), List.drop_drop]
        cases b with
        | false =>
          rw [if_neg (by simp)] at h
          refine GLo.step (T := spanS S a.toNat 1) ?_ em h (fun r' => ih _ _ _)
          unfold glob_class_lp1
          dsimp only
          rw [ix hc, bind_some, bifT (by simp [q]), bind_some, bifFd q2, member_eq hs hm, bind_some]
          dsimp only
          rw [lett_eq, w64_addN (by omega), dash_g hs hb, cond_false, flow_go]
          dsimp only
          rw [lett_eq, span_g a 1 a.toNat S rfl, flow_go, bind_some]
          dsimp only
          rw [lett_eq, flow_go, w64_addN (by omega)]
        | true =>
          rw [if_pos rfl] at h
          obtain ⟨⟨d, m2⟩, hm2, h⟩ := bnd h
          have hl2 := mem32_len hm2
          rw [List.tail_drop] at hm2
          rw [List.length_tail, List.length_drop] at hl2
          dsimp only at h
          split at h
          · rename_i q3
            cases h
            refine ⟨S, loop_out ?_⟩
            unfold glob_class_lp1
            dsimp only
            rw [ix hc, bind_some, bifT (by simp [q]), bind_some, bifFd q2, member_eq hs hm, bind_some]
            dsimp only
            rw [lett_eq, w64_addN (by omega), dash_g hs hb, cond_true, w64_succ (by omega), member_eq hs hm2, bind_some]
            dsimp only
            rw [bifTd q3]
            rfl
          · rename_i q3
            rw [List.drop_drop] at h
            refine GLo.step (T := spanS S a.toNat (d.toNat + 1 - a.toNat)) ?_ ?_ h (fun r' => ih _ _ _)
            · unfold glob_class_lp1
              dsimp only
              rw [ix hc, bind_some, bifT (by simp [q]), bind_some, bifFd q2, member_eq hs hm, bind_some]
              dsimp only
              have q3' : a.toNat ≤ d.toNat := by rw [UInt8.lt_iff_toNat_lt] at q3; omega
              rw [lett_eq, w64_addN (by omega), dash_g hs hb, cond_true, w64_succ (by omega), member_eq hs hm2, bind_some]
              dsimp only
              rw [bifFd q3, lett_eq, flow_go]
              dsimp only
              rw [lett_eq, span_g d (d.toNat + 1 - a.toNat) a.toNat S (by omega), flow_go, bind_some]
              dsimp only
              rw [lett_eq, flow_go, w64_succ (by omega), w64_addN (by omega), w64_addN (by omega)]
            · rw [em]
              have hd45 : (s.drop (p + m)).head? = some 45 ∧ (s.drop (p + m)).tail.head? ≠ some 93 := by
                unfold dash at hb
                obtain ⟨x, hx, hb⟩ := bnd hb
                split at hb
                · rename_i qx
                  obtain ⟨y, hy, hb⟩ := bnd hb
                  simp at hb
                  rw [hx, hy, qx]
                  exact ⟨rfl, by simpa using hb.1⟩
                · cases hb
              have e1 : mem32 (s.drop (p + m)) = some (45, 1) := by
                cases hx : s.drop (p + m) with
                | nil => rw [hx] at hd45; cases hd45.1
                | cons x r =>
                  rw [hx] at hd45
                  simp at hd45
                  rw [hd45.1]
                  cases r <;> simp [mem32]
              rw [endL_mem e1 (by rw [hd45.1]; simp), List.drop_drop, endL_mem hm2 (by rw [← List.tail_drop]; exact hd45.2), List.drop_drop, Option.map_map, Option.map_map, show p + m + 1 + m2 = p + (m + 1 + m2) by omega]
              congr 1
              funext x
              show x + m2 + 1 + m = x + (m + 1 + m2)
              omega
end Go.Lg
namespace Go.Lg
attribute [local irreducible] w64 toU64 toU8 shlU shrU shlB shrB
theorem endL_cons (c : UInt8) (r : List UInt8) : endL (c :: r) = if c = 93 then some 0 else if c = 92 then (endL r.tail).map (· + 2) else (endL r).map (· + 1) := by
  cases r with
  | nil => simp [endL]
  | cons d r => simp [endL]
theorem endL_lt {l : List UInt8} {k : Nat} (h : endL l = some k) : k < l.length := by
  have key : ∀ n (l : List UInt8) k, l.length ≤ n → endL l = some k → k < l.length := by
    intro n
    induction n with
    | zero => intro l k hl h; have : l = [] := List.eq_nil_of_length_eq_zero (by omega); subst this; cases h
    | succ n ih =>
      intro l k hl h
      rcases endL_some h with ⟨h1, rfl⟩ | ⟨h1, a, m, h2, h3, h4, h5⟩
      · cases l with
        | nil => cases h1
        | cons _ _ => simp
      · have := ih _ _ (by rw [List.length_drop]; omega) h5
        rw [List.length_drop] at this; omega
  exact key _ _ _ (Nat.le_refl _) h
theorem drop_at {s : List UInt8} {p : Nat} (h : p < s.length) : ∃ c r, s.drop p = c :: r ∧ s.drop (p + 1) = r ∧ (s.drop p).head? = some c :=
  ⟨s[p], s.drop (p + 1), List.drop_eq_getElem_cons h, rfl, by rw [List.drop_eq_getElem_cons h]; rfl⟩
theorem closed_loop (s : List UInt8) (hs : s.length ≤ 1000) : ∀ n p : Nat, p ≤ 1002 → s.length < p + n → ∃ q : Nat, loop (glob_closed_lp1 s) (p : Int) = some (.go (q : Int)) ∧ decide (q < s.length) = (endL (s.drop p)).isSome := by
  have over : ∀ p : Nat, s.length ≤ p → ∃ q : Nat, loop (glob_closed_lp1 s) (p : Int) = some (.go (q : Int)) ∧ decide (q < s.length) = (endL (s.drop p)).isSome := by
    intro p h
    refine ⟨p, loop_brk ?_, ?_⟩
    · unfold glob_closed_lp1
      rw [bifFd (by omega)]; rfl
    · rw [List.drop_eq_nil_of_le h, decide_eq_false (by omega)]; rfl
  intro n
  induction n with
  | zero => intro p _ h; exact over p (by omega)
  | succ n ih =>
    intro p hp h
    by_cases q : p < s.length
    · obtain ⟨c, r, h1, h2, h3⟩ := drop_at q
      by_cases e : c = 93
      · refine ⟨p, loop_brk ?_, ?_⟩
        · unfold glob_closed_lp1
          rw [bifTd (by omega), ix h3, bind_some, bind_some, bifF (by simp [e])]
        · rw [h1, endL_cons, if_pos e, decide_eq_true q]; rfl
      · by_cases e2 : c = 92
        · have hn : glob_closed_lp1 s (p : Int) = some (.next ((p + 2 : Nat) : Int)) := by
            unfold glob_closed_lp1
            rw [bifTd (by omega), ix h3, bind_some, bind_some, bifT (by simp [e]), bind_some, bifTd e2, lett_eq, bind_some, lett_eq, w64_succ (by omega), w64_succ (by omega), bind_some]
          obtain ⟨x, hx, hx2⟩ := ih (p + 2) (by omega) (by omega)
          refine ⟨x, by rw [loop_next hn, hx], ?_⟩
          rw [hx2, h1, endL_cons, if_neg e, if_pos e2, ← h2, List.tail_drop, Option.isSome_map]
        · have hn : glob_closed_lp1 s (p : Int) = some (.next ((p + 1 : Nat) : Int)) := by
            unfold glob_closed_lp1
            rw [bifTd (by omega), ix h3, bind_some, bind_some, bifT (by simp [e]), bind_some, bifFd e2, bind_some, lett_eq, w64_succ (by omega), bind_some]
          obtain ⟨x, hx, hx2⟩ := ih (p + 1) (by omega) (by omega)
          refine ⟨x, by rw [loop_next hn, hx], ?_⟩
          rw [hx2, h1, endL_cons, if_neg e, if_neg e2, ← h2, Option.isSome_map]
    · exact over p (by omega)
theorem closed_eq (s : List UInt8) (hs : s.length ≤ 1000) (p : Nat) (hp : p ≤ 1002) : glob_closed s (p : Int) = some (endL (s.drop p)).isSome := by
  obtain ⟨q, h1, h2⟩ := closed_loop s hs (s.length + 1) p hp (by omega)
  unfold glob_closed
  rw [h1, flow_go, bind_some, lett_eq, ← h2]
  congr 1
  rw [decide_eq_decide]; omega
/-! ### a set -/
def bang (r : List UInt8) : Nat := if r.head? = some 33 then 1 else 0
theorem bang_g {s : List UInt8} {p : Nat} {β : Type} (hp : p ≤ s.length) (F : Bool → Option β) : (bif decide ((p : Int) < (s.length : Int)) then
     (idx s (p : Int)).bind fun c32 =>
     some (decide (c32 = 33))
     else
     some false : Option Bool).bind F = F (decide (bang (s.drop p) = 1)) := by
  by_cases q : p < s.length
  · obtain ⟨c, r, h1, h2, h3⟩ := drop_at q
    rw [bifTd (by omega), ix h3, bind_some, bind_some]
    unfold bang
    rw [h3]
    by_cases e : c = 33
    · simp [e]
    · simp [e]
  · rw [bifFd (by omega), bind_some, List.drop_eq_nil_of_le (by omega)]; rfl
theorem bang_le (r : List UInt8) : bang r = 0 ∨ bang r = 1 := by
  unfold bang; split
  · exact .inr rfl
  · exact .inl rfl
theorem bang_a {r : List UInt8} {p : Nat} {β : Type} (hp : p ≤ 1000) (F : Int → Option β) : (bif decide (bang r = 1) then
     lett (w64 ((p : Int) + 1)) fun at37 =>
     some at37
     else
     some (p : Int) : Option Int).bind F = F ((p + bang r : Nat) : Int) := by
  rcases bang_le r with h | h
  · rw [h, bifFd (by omega), bind_some]; rfl
  · rw [h, bifTd rfl, lett_eq, bind_some, w64_succ (by omega)]
def classS (r : List UInt8) : (Nat × Int) ⊕ (glob_piece × Nat) :=
  match endL (r.drop (bang r)) with
  | none => .inl (0, 2)
  | some 0 => .inl (0, 3)
  | some (k + 1) => match clsS (k + 2) nilS (r.drop (bang r)) with
    | none => .inl (0, 1)
    | some (.inl o) => .inl (1 + bang r + o, 3)
    | some (.inr S) => .inr (⟨0, if bang r = 1 then notS S else S, false, 0⟩, 1 + bang r + (k + 1) + 1)
def GNx (o : Option (glob_piece × Int × glob_fault)) (p : Nat) : (Nat × Int) ⊕ (glob_piece × Nat) → Prop
  | .inl x => ∃ P n, o = some (P, n, ⟨((p + x.1 : Nat) : Int), x.2⟩)
  | .inr x => o = some (x.1, (x.2 : Int), ⟨0, 0⟩)
theorem class_g (s : List UInt8) (hs : s.length ≤ 1000) (p : Nat) (hp : p < s.length) : GNx (glob_class s (p : Int)) p (classS (s.drop (p + 1))) := by
  unfold glob_class
  rw [lett_eq, w64_succ (by omega), bang_g (by omega), bang_a (by omega), closed_eq s hs _ (by have := bang_le (s.drop (p + 1)); omega), bind_some]
  unfold classS
  rw [List.drop_drop]
  have hb := bang_le (s.drop (p + 1))
  generalize hB : bang (s.drop (p + 1)) = B at hb ⊢
  cases he : endL (s.drop (p + 1 + B)) with
  | none => exact ⟨_, _, rfl⟩
  | some k =>
    rw [bifF (by simp)]
    have hl := endL_lt he
    rw [List.length_drop] at hl
    cases k with
    | zero =>
      refine ⟨⟨0, nilS, false, 0⟩, 0, ?_⟩
      have hd : s.drop (p + 1 + B) ≠ [] := fun e => by rw [e] at he; cases he
      have hc : clsS 1 nilS (s.drop (p + 1 + B)) = some (.inr nilS) := by
        rcases endL_some he with ⟨h1, _⟩ | ⟨_, _, _, _, h3, h4, _⟩
        · unfold clsS; rw [h1, bind_some, if_pos rfl]
        · omega
      obtain ⟨k, hk, hr⟩ := cls_g s hs _ _ _ _ hc
      rw [he] at hk
      cases hk
      have hr' : loop (glob_class_lp1 s) (0, 0, 0, 0, ((p + 1 + B : Nat) : Int)) = some (.go (0, 0, 0, 0, ((p + 1 + B + 0 : Nat) : Int))) := hr
      rw [hr', flow_go]
      dsimp only
      rw [flow_go]
      dsimp only
      rw [bifTd (by omega)]; rfl
    | succ k =>
      obtain ⟨r, hr⟩ := clsS_total (k + 2) nilS _ _ he (by omega)
      have hg := cls_g s hs _ _ _ _ hr
      dsimp only
      rw [hr]
      cases r with
      | inl o =>
        obtain ⟨T, hT⟩ := hg
        have hT' : loop (glob_class_lp1 s) (0, 0, 0, 0, ((p + 1 + B : Nat) : Int)) = _ := hT
        refine ⟨⟨0, T, false, 0⟩, 0, ?_⟩
        rw [hT', flow_out, flow_out, show p + (1 + B + o) = p + 1 + B + o by omega]
      | inr S =>
        obtain ⟨k', hk, hT⟩ := hg
        rw [he] at hk
        cases hk
        have hT' : loop (glob_class_lp1 s) (0, 0, 0, 0, ((p + 1 + B : Nat) : Int)) = _ := hT
        rw [hT', flow_go]
        dsimp only
        rw [flow_go]
        dsimp only
        rw [bifFd (by omega)]
        have e : w64 (w64 (((p + 1 + B + (k + 1) : Nat) : Int) + 1) - (p : Int)) = ((1 + B + (k + 1) + 1 : Nat) : Int) := by
          rw [w64_succ (by omega), w64_subN (by omega) (by omega)]; congr 1; omega
        rcases hb with rfl | rfl
        · rw [bifFd (by omega), bind_some]
          dsimp only
          rw [lett_eq, e]; rfl
        · rw [bifTd rfl, not_g, flow_go, bind_some]
          dsimp only
          rw [bind_some]
          dsimp only
          rw [lett_eq, e]; rfl
end Go.Lg
namespace Go.Lg
attribute [local irreducible] w64 toU64 toU8 shlU shrU shlB shrB spanS
theorem classS_no {r : List UInt8} {x : Nat × Int} (h : classS r = .inl x) : x.2 = 2 ∨ x.2 = 3 := by
  unfold classS at h
  split at h
  · cases h; exact .inl rfl
  · cases h; exact .inr rfl
  · rename_i k he
    obtain ⟨y, hy⟩ := clsS_total (k + 2) nilS _ _ he (by omega)
    rw [hy] at h
    cases y with
    | inl o => cases h; exact .inr rfl
    | inr S => cases h
theorem classS_yes {r : List UInt8} {P : glob_piece} {k : Nat} (h : classS r = .inr (P, k)) : 1 ≤ k ∧ k ≤ r.length + 1 ∧ ∀ q, classS (r ++ q) = .inr (P, k) := by
  have hb : ∀ q, endL (r.drop (bang r)) ≠ none → bang (r ++ q) = bang r ∧ (r ++ q).drop (bang r) = r.drop (bang r) ++ q := by
    intro q hn
    cases r with
    | nil => exact absurd (by rw [List.drop_nil]; rfl) hn
    | cons c r =>
      refine ⟨rfl, List.drop_append_of_le_length ?_⟩
      have := bang_le (c :: r)
      rw [List.length_cons]; omega
  unfold classS at h
  split at h
  · cases h
  · cases h
  · rename_i k' he
    have hl := endL_lt he
    rw [List.length_drop] at hl
    obtain ⟨y, hy⟩ := clsS_total (k' + 2) nilS _ _ he (by omega)
    rw [hy] at h
    cases y with
    | inl o => cases h
    | inr S =>
      cases h
      refine ⟨by omega, by omega, fun q => ?_⟩
      obtain ⟨b1, b2⟩ := hb q (by rw [he]; simp)
      unfold classS
      rw [b1, b2, endL_app q he]
      dsimp only
      rw [clsS_app q _ _ _ _ hy]
def byteP (c : UInt8) : glob_piece := ⟨0, addSt nilS c, true, c⟩
/-- the piece ahead and how many bytes it takes; or how far off the fault is, and which -/
def nextS : List UInt8 → (Nat × Int) ⊕ (glob_piece × Nat)
  | [] => .inl (0, 1)
  | c :: r => if c = 42 then .inr (⟨1, nilS, false, 0⟩, 1) else if c = 63 then .inr (⟨0, fullS, false, 0⟩, 1) else if c = 91 then classS r
    else if c = 92 then (match r.head? with
      | none => .inl (0, 2)
      | some d => .inr (byteP d, 2))
    else .inr (byteP c, 1)
theorem nextS_c (c : UInt8) (r : List UInt8) : nextS (c :: r) = if c = 42 then .inr (⟨1, nilS, false, 0⟩, 1) else if c = 63 then .inr (⟨0, fullS, false, 0⟩, 1) else if c = 91 then classS r
    else if c = 92 then (match r.head? with
      | none => .inl (0, 2)
      | some d => .inr (byteP d, 2))
    else .inr (byteP c, 1) := rfl
theorem nextS_no {l : List UInt8} {x : Nat × Int} (h : nextS l = .inl x) : x.2 ≠ 0 := by
  cases l with
  | nil => cases h; simp
  | cons c r =>
    rw [nextS_c] at h
    split at h
    · cases h
    · split at h
      · cases h
      · split at h
        · have := classS_no h; omega
        · split at h
          · split at h
            · cases h; simp
            · cases h
          · cases h
theorem nextS_yes {l : List UInt8} {P : glob_piece} {k : Nat} (h : nextS l = .inr (P, k)) : 1 ≤ k ∧ k ≤ l.length ∧ ∀ q, nextS (l ++ q) = .inr (P, k) := by
  cases l with
  | nil => cases h
  | cons c r =>
    rw [List.length_cons]
    rw [nextS_c] at h
    split at h
    · rename_i e; cases h; exact ⟨by omega, by omega, fun q => by rw [List.cons_append]; rw [nextS_c, if_pos e]⟩
    · rename_i e1
      split at h
      · rename_i e; cases h; exact ⟨by omega, by omega, fun q => by rw [List.cons_append]; rw [nextS_c, if_neg e1, if_pos e]⟩
      · rename_i e2
        split at h
        · rename_i e
          obtain ⟨h1, h2, h3⟩ := classS_yes h
          exact ⟨h1, h2, fun q => by rw [List.cons_append]; rw [nextS_c, if_neg e1, if_neg e2, if_pos e]; exact h3 q⟩
        · rename_i e3
          split at h
          · rename_i e
            cases r with
            | nil => cases h
            | cons d r =>
              cases h
              exact ⟨by omega, by simp, fun q => by rw [List.cons_append]; rw [nextS_c, if_neg e1, if_neg e2, if_neg e3, if_pos e]; rfl⟩
          · rename_i e
            cases h
            exact ⟨by omega, by omega, fun q => by rw [List.cons_append]; rw [nextS_c, if_neg e1, if_neg e2, if_neg e3, if_neg e]⟩
theorem byteOf_eq (c : UInt8) : glob_byteOf c = some (byteP c) := by
  unfold glob_byteOf
  exact add_step nilS c _
theorem next_g (s : List UInt8) (hs : s.length ≤ 1000) (p : Nat) (hp : p < s.length) : GNx (glob_next s (p : Int)) p (nextS (s.drop p)) := by
  obtain ⟨c, r, h1, h2, h3⟩ := drop_at hp
  unfold glob_next
  rw [ix h3, bind_some, lett_eq, h1]
  rw [nextS_c]
  by_cases e1 : c = 42
  · rw [bifTd e1, if_pos e1]; exact rfl
  · rw [bifFd e1, if_neg e1, lett_eq]
    by_cases e2 : c = 63
    · rw [bifTd e2, if_pos e2, lett_eq, show (((0 : UInt8).toNat : Nat) : Int) = ((0 : Nat) : Int) from rfl]
      have := span_n 256 0 nilS rfl
      have h : loop glob_next_lp1 (0, 0, 0, 0, ((0 : Nat) : Int)) = _ := this
      rw [h, flow_go, bind_some]
      exact rfl
    · rw [bifFd e2, if_neg e2, lett_eq]
      by_cases e3 : c = 91
      · rw [bifTd e3, if_pos e3]
        have := class_g s hs p hp
        rw [h2] at this
        cases hc : classS r with
        | inl x =>
          rw [hc] at this
          obtain ⟨P, n, hx⟩ := this
          exact ⟨P, n, by rw [hx, bind_some]⟩
        | inr x =>
          rw [hc] at this
          have hx : glob_class s (p : Int) = some (x.1, (x.2 : Int), ⟨0, 0⟩) := this
          rw [hx, bind_some]; exact rfl
      · rw [bifFd e3, if_neg e3, lett_eq]
        by_cases e4 : c = 92
        · rw [bifTd e4, if_pos e4, w64_succ (by omega)]
          by_cases e5 : p + 1 = s.length
          · have : r.head? = none := by rw [← h2, List.drop_eq_nil_of_le (by omega)]; rfl
            rw [bifTd (by omega), this]
            exact ⟨_, _, rfl⟩
          · obtain ⟨d, r', g1, g2, g3⟩ := drop_at (s := s) (p := p + 1) (by omega)
            have : r.head? = some d := by rw [← h2, g3]
            rw [bifFd (by omega), ix g3, bind_some, byteOf_eq, bind_some, this]
            exact rfl
        · rw [bifFd e4, if_neg e4, bind_some, byteOf_eq, bind_some]
          exact rfl
/-! ### piece by piece -/
def compS : Nat → Nat → List UInt8 → (Nat × Int) ⊕ List glob_piece
  | 0, _, _ => .inr []
  | n + 1, p, l => if l = [] then .inr [] else match nextS l with
    | .inl x => .inl (p + x.1, x.2)
    | .inr x => match compS n (p + x.2) (l.drop x.2) with
      | .inl y => .inl y
      | .inr ps => .inr (x.1 :: ps)
theorem compS_len : ∀ (n p : Nat) (l : List UInt8) (ps : List glob_piece), compS n p l = .inr ps → ps.length ≤ l.length
  | 0, p, l, ps, h => by cases h; exact Nat.zero_le _
  | n + 1, p, l, ps, h => by
    unfold compS at h
    split at h
    · cases h; exact Nat.zero_le _
    · split at h
      · cases h
      · rename_i x hx
        obtain ⟨P, k⟩ := x
        obtain ⟨h1, h2, _⟩ := nextS_yes hx
        split at h
        · cases h
        · rename_i qs hq
          cases h
          have := compS_len n _ _ _ hq
          rw [List.length_drop] at this
          rw [List.length_cons]; dsimp only at this; omega
def GC (acc : List glob_piece) : (Nat × Int) ⊕ List glob_piece → Flow (List glob_piece) (Option glob_Glob × Int × Int)
  | .inl x => .out (none, (x.1 : Int), x.2)
  | .inr ps => .go (acc ++ ps)
theorem comp_g (s : List UInt8) (hs : s.length ≤ 1000) : ∀ (n p : Nat) (acc : List glob_piece), p ≤ s.length → s.length < p + n → acc.length ≤ p → loop (glob_Compile_lp1 s) (acc, (p : Int)) = some (GC acc (compS n p (s.drop p))) := by
  intro n
  induction n with
  | zero => intro p acc h1 h2; omega
  | succ n ih =>
    intro p acc h1 h2 h3
    unfold compS
    by_cases q : p < s.length
    · have hne : s.drop p ≠ [] := fun e => by have := congrArg List.length e; rw [List.length_drop, List.length_nil] at this; omega
      have hx := next_g s hs p q
      rw [if_neg hne]
      cases hn : nextS (s.drop p) with
      | inl x =>
        rw [hn] at hx
        obtain ⟨P, m, hx⟩ := hx
        refine loop_out ?_
        unfold glob_Compile_lp1
        dsimp only
        rw [bifTd (by omega), hx, bind_some]
        dsimp only
        have hz := nextS_no hn
        rw [bifT (by rw [decide_eq_false hz, Bool.false_and, Bool.and_false]; rfl)]; rfl
      | inr x =>
        obtain ⟨P, k⟩ := x
        rw [hn] at hx
        obtain ⟨k1, k2, _⟩ := nextS_yes hn
        rw [List.length_drop] at k2
        have hx' : glob_next s (p : Int) = some (P, (k : Int), ⟨0, 0⟩) := hx
        have hst : glob_Compile_lp1 s (acc, (p : Int)) = some (.next (acc ++ [P], ((p + k : Nat) : Int))) := by
          unfold glob_Compile_lp1
          dsimp only
          rw [bifTd (by omega), hx', bind_some]
          dsimp only
          rw [bifF (by simp), app_ok (by simp; omega), bind_some, lett_eq, w64_addN (by omega)]
        rw [loop_next hst, ih (p + k) _ (by omega) (by omega) (by simp; omega)]
        dsimp only
        rw [List.drop_drop]
        cases compS n (p + k) (s.drop (p + k)) with
        | inl y => rfl
        | inr ps => simp [GC]
    · rw [if_pos (List.drop_eq_nil_of_le (by omega))]
      refine loop_brk ?_
      unfold glob_Compile_lp1
      dsimp only
      rw [bifFd (by omega)]; simp
def comp (s : List UInt8) : (Nat × Int) ⊕ List glob_piece := if 64 < s.length then .inl (64, 4) else compS (s.length + 1) 0 s
def GC2 (s : List UInt8) : (Nat × Int) ⊕ List glob_piece → Option glob_Glob × Int × Int
  | .inl x => (none, (x.1 : Int), x.2)
  | .inr ps => (some ⟨s, ps⟩, 0, 0)
theorem compile_g (s : List UInt8) : glob_Compile s = some (GC2 s (comp s)) := by
  unfold glob_Compile comp
  by_cases h : 64 < s.length
  · rw [bifTd (by omega), if_pos h]; rfl
  · have := comp_g s (by omega) (s.length + 1) 0 [] (by omega) (by omega) (by simp)
    rw [List.drop_zero] at this
    rw [bifFd (by omega), if_neg h, show (0 : Int) = ((0 : Nat) : Int) from rfl, this]
    cases compS (s.length + 1) 0 s <;> rfl
theorem compS_no : ∀ (n p : Nat) (l : List UInt8) (x : Nat × Int), compS n p l = .inl x → x.2 ≠ 0
  | 0, p, l, x, h => by cases h
  | n + 1, p, l, x, h => by
    unfold compS at h
    split at h
    · cases h
    · split at h
      · rename_i y hy
        cases h
        show y.2 ≠ 0
        exact nextS_no hy
      · split at h
        · rename_i y hy
          cases h
          exact compS_no n _ _ _ hy
        · cases h
theorem comp_no {s : List UInt8} {x : Nat × Int} (h : comp s = .inl x) : x.2 ≠ 0 := by
  unfold comp at h
  split at h
  · cases h; simp
  · exact compS_no _ _ _ _ h
theorem comp_len {s : List UInt8} {ps : List glob_piece} (h : comp s = .inr ps) : ps.length ≤ 64 := by
  unfold comp at h
  split at h
  · cases h
  · have := compS_len _ _ _ _ h; omega
end Go.Lg
namespace Go.Lg
attribute [local irreducible] w64 toU64 toU8 shlU shrU shlB shrB spanS
/-! ### the document's Match -/
theorem mt_rest (s : List UInt8) : mt [.some] s = true := by
  induction s with
  | nil => rw [mt_sn]; simp [mt]
  | cons c s ih => rw [mt_sc, ih, Bool.or_true]
theorem mt_nil (s : List UInt8) : mt [] s = s.isEmpty := by cases s <;> simp [mt]
theorem gmatch_eq (g : glob_Glob) (s : List UInt8) (hp : g.pieces.length ≤ 1000) (hs : s.length ≤ 1000) : glob_Glob_Match g s = some (mt (g.pieces.map pcOf) s) := by
  unfold glob_Glob_Match
  rw [match_loop g s hp hs, flow_out]
/-! ### the one text -/
/-! ### what the document tells -/
theorem inS_byte (c d : UInt8) : inS (addSt nilS c) d = decide (d = c) := by rw [inS_add, inS_nil, Bool.or_false]
/-! ### the laws -/
end Go.Lg
namespace Go.Lg
structure api_Rule where
  Kind : Int
  Key : List UInt8
  Glob : List UInt8
  To : List UInt8
  Val : List UInt8
  deriving DecidableEq
structure relabel_rule where
  Rule : api_Rule
  g : Option glob_Glob
  deriving DecidableEq
structure relabel_Rules where
  l : List relabel_rule
  deriving DecidableEq
structure ref33_Through where
  P : api_Point
  Stop : Int
  deriving DecidableEq
structure ref33_Got where
  P : api_Point
  Kept : Bool
  E : Int
  deriving DecidableEq
noncomputable def relabel_isKey (a0 : List UInt8) : Option Bool :=
 (label_Check a0 []).bind fun r11 =>
 lett (decide (r11 = 0)) fun t20 =>
 some t20
noncomputable def relabel_isValue (a0 : List UInt8) : Option Bool :=
 (label_Check [120] [(api_Pair.mk [120] a0)]).bind fun r16 =>
 lett (decide (r16 = 0)) fun t25 =>
 some t25
noncomputable def relabel_Check (a0 : api_Rule) : Option Int :=
 bif ((decide (a0.Kind < 1)) || (decide (5 < a0.Kind))) then
 some 14
 else
 (glob_Compile a0.Glob).bind fun (r21, r22, r23) =>
 bif (!decide (r23 = 0)) then
 some r23
 else
 (bif decide (a0.Key = []) then
 some true
 else
 (relabel_isKey a0.Key).bind fun r44 =>
 some r44 : Option Bool).bind fun x37 =>
 (lett (decide (a0.Kind = 4)) fun t60 =>
 bif t60 then
 (bif (x37 && (!decide (a0.Key = []))) then
 (relabel_isKey a0.To).bind fun r70 =>
 some r70
 else
 some false : Option Bool).bind fun x63 =>
 lett ((x63 && (decide (a0.Val = [])))) fun good81 =>
 some good81
 else
 lett (decide (a0.Kind = 3)) fun t82 =>
 bif t82 then
 (bif x37 then
 (relabel_isKey a0.To).bind fun r91 =>
 some r91
 else
 some false : Option Bool).bind fun x84 =>
 (bif x84 then
 (relabel_isValue a0.Val).bind fun r108 =>
 some r108
 else
 some false : Option Bool).bind fun x100 =>
 some x100
 else
 lett (decide (a0.Kind = 5)) fun t117 =>
 bif t117 then
 lett ((((decide (a0.Key = [])) && (decide (a0.To = []))) && (decide (a0.Val = [])))) fun good121 =>
 some good121
 else
 lett (((x37 && (decide (a0.To = []))) && (decide (a0.Val = [])))) fun good124 =>
 some good124 : Option Bool).bind fun good54 =>
 bif (!good54) then
 some 3
 else
 some 0
noncomputable def relabel_Compile_lp1 (a0 : List api_Rule) : (List relabel_rule × Int) → Option (Rnd (List relabel_rule × Int) (List relabel_rule) (Option relabel_Rules × Int × Int)) := fun (c22, x25) =>
 bif decide (x25 < (a0.length : Int)) then
 (idx a0 x25).bind fun e43 =>
 (relabel_Check e43).bind fun r68 =>
 bif (!decide (r68 = 0)) then
 outr (some (none, x25, r68))
 else
 (glob_Compile e43.Glob).bind fun (r81, r82, r83) =>
 (app c22 [(relabel_rule.mk e43 r81)]).bind fun xs146 =>
 some (.next (xs146, w64 (x25 + 1)))
 else
 some (.brk c22)
noncomputable def relabel_Compile (a0 : List api_Rule) : Option (Option relabel_Rules × Int × Int) :=
 bif decide (64 < (a0.length : Int)) then
 some (none, 64, 4)
 else
 flow (loop (relabel_Compile_lp1 a0) ([], 0)) fun c30 =>
 some ((some (relabel_Rules.mk c30)), 0, 0)
noncomputable def relabel_Rules_Len (a0 : relabel_Rules) : Option Int :=
 lett ((a0.l.length : Int)) fun t13 =>
 some t13
noncomputable def relabel_find_lp1 (a0 : List api_Pair) (a1 : List UInt8) : Int → Option (Rnd Int Unit Int) := fun x24 =>
 bif decide (x24 < (a0.length : Int)) then
 (idx a0 x24).bind fun e38 =>
 (lett (decide (e38.Key = a1)) fun t64 =>
 some t64 : Option Bool).bind fun x51 =>
 bif x51 then
 outr (some x24)
 else
 some (.next (w64 (x24 + 1)))
 else
 some (.brk ())
noncomputable def relabel_find (a0 : List api_Pair) (a1 : List UInt8) : Option Int :=
 (flow (loop (relabel_find_lp1 a0 a1) 0) fun (_ : Unit) =>
 some (-1) : Option Int).bind fun x17 =>
 some x17
noncomputable def relabel_rule_holds (a0 : relabel_rule) (a1 : api_Point) : Option Bool :=
 (bif (!decide (a0.Rule.Key = [])) then
 (relabel_find a1.Attrs a0.Rule.Key).bind fun r51 =>
 bif decide (0 ≤ r51) then
 (idx a1.Attrs r51).bind fun e62 =>
 some e62.Val
 else
 some []
 else
 some a1.Name : Option (List UInt8)).bind fun s42 =>
 (a0.g).bind fun d81 =>
 (glob_Glob_Match d81 s42).bind fun r90 =>
 some r90
noncomputable def relabel_without_lp1 (a1 : List UInt8) (r18 : List api_Pair) : Int → Option (Rnd Int Unit Int) := fun x44 =>
 bif decide (x44 < (r18.length : Int)) then
 (idx r18 x44).bind fun e58 =>
 (lett (decide (e58.Key = a1)) fun t83 =>
 some t83 : Option Bool).bind fun x69 =>
 bif x69 then
 outr (some x44)
 else
 some (.next (w64 (x44 + 1)))
 else
 some (.brk ())
noncomputable def relabel_without_lp2 (a1 : List UInt8) : (List api_Pair × Int × Int) → Option (Rnd (List api_Pair × Int × Int) (List api_Pair × Int) (List api_Pair × Int)) := fun (s100, i103, j104) =>
 bif decide (j104 < (s100.length : Int)) then
 ((idx s100 j104).bind fun e135 =>
 (lett (decide (e135.Key = a1)) fun t170 =>
 some t170 : Option Bool).bind fun x153 =>
 bif (!x153) then
 (idx s100 i103).bind fun e173 =>
 (setI s100 i103 e135).bind fun xs186 =>
 lett (w64 (i103 + 1)) fun i190 =>
 some (xs186, i190)
 else
 some (s100, i103) : Option (List api_Pair × Int)).bind fun (s126, i129) =>
 lett (w64 (j104 + 1)) fun j200 =>
 some (.next (s126, i129, j200))
 else
 some (.brk (s100, i103))
noncomputable def relabel_without (a0 : List api_Pair) (a1 : List UInt8) : Option (List api_Pair) :=
 (slices_Clone_api_Pair_api_Pair a0).bind fun r18 =>
 ((flow (loop (relabel_without_lp1 a1 r18) 0) fun (_ : Unit) =>
 some (-1) : Option Int).bind fun x38 =>
 bif decide (x38 = (-1)) then
 some r18
 else
 lett (w64 (x38 + 1)) fun j90 =>
 (flow (loop (relabel_without_lp2 a1) (r18, x38, j90)) fun (s108, i111) =>
 some (s108, i111) : Option (List api_Pair × Int)).bind fun (s91, i94) =>
 (slc s91 i94 (s91.length : Int)).bind fun tl210 =>
 (slc (clr s91 i94 (api_Pair.mk [] [])) 0 i94).bind fun t216 =>
 some t216 : Option (List api_Pair)).bind fun x30 =>
 some x30
noncomputable def relabel_rule_turn_lp1 (a0 : relabel_rule) (r576 : List api_Pair) : Int → Option (Rnd Int Unit Int) := fun x602 =>
 bif decide (x602 < (r576.length : Int)) then
 (idx r576 x602).bind fun e616 =>
 ((a0.g).bind fun d646 =>
 (glob_Glob_Match d646 e616.Key).bind fun r655 =>
 some r655 : Option Bool).bind fun x627 =>
 bif x627 then
 outr (some x602)
 else
 some (.next (w64 (x602 + 1)))
 else
 some (.brk ())
noncomputable def relabel_rule_turn_lp2 (a0 : relabel_rule) : (List api_Pair × Int × Int) → Option (Rnd (List api_Pair × Int × Int) (List api_Pair × Int) (List api_Pair × Int)) := fun (s680, i683, j684) =>
 bif decide (j684 < (s680.length : Int)) then
 ((idx s680 j684).bind fun e715 =>
 ((a0.g).bind fun d758 =>
 (glob_Glob_Match d758 e715.Key).bind fun r767 =>
 some r767 : Option Bool).bind fun x733 =>
 bif (!x733) then
 (idx s680 i683).bind fun e778 =>
 (setI s680 i683 e715).bind fun xs791 =>
 lett (w64 (i683 + 1)) fun i795 =>
 some (xs791, i795)
 else
 some (s680, i683) : Option (List api_Pair × Int)).bind fun (s706, i709) =>
 lett (w64 (j684 + 1)) fun j805 =>
 some (.next (s706, i709, j805))
 else
 some (.brk (s680, i683))
noncomputable def relabel_rule_turn (a0 : relabel_rule) (a1 : api_Point) : Option (Bool × api_Point) :=
 (relabel_rule_holds a0 a1).bind fun r36 =>
 lett (decide (a0.Rule.Kind = 1)) fun t46 =>
 bif t46 then
 some (r36, a1)
 else
 lett (decide (a0.Rule.Kind = 2)) fun t53 =>
 bif t53 then
 lett ((!r36)) fun t55 =>
 some (t55, a1)
 else
 lett (decide (a0.Rule.Kind = 3)) fun t61 =>
 bif t61 then
 bif r36 then
 ((relabel_without a1.Attrs a0.Rule.To).bind fun r134 =>
 some (r134, [(api_Pair.mk a0.Rule.To a0.Rule.Val)])).bind fun (x120, x123) =>
 (app x120 x123).bind fun xs189 =>
 some (true, (api_Point.mk a1.Name xs189 a1.Kind a1.Temp a1.Mono a1.Start a1.Time a1.Int_ a1.Re a1.Im a1.Hist a1.Flags))
 else
 some (true, a1)
 else
 lett (decide (a0.Rule.Kind = 4)) fun t229 =>
 bif t229 then
 (relabel_find a1.Attrs a0.Rule.Key).bind fun r238 =>
 bif ((decide (0 ≤ r238)) && r36) then
 (idx a1.Attrs r238).bind fun e281 =>
 ((relabel_without a1.Attrs a0.Rule.Key).bind fun r387 =>
 ((relabel_without r387 a0.Rule.To).bind fun r411 =>
 some (r411, [(api_Pair.mk a0.Rule.To e281.Val)])).bind fun (x399, x402) =>
 some (x399, x402)).bind fun (x372, x375) =>
 (app x372 x375).bind fun xs515 =>
 some (true, (api_Point.mk a1.Name xs515 a1.Kind a1.Temp a1.Mono a1.Start a1.Time a1.Int_ a1.Re a1.Im a1.Hist a1.Flags))
 else
 some (true, a1)
 else
 lett (decide (a0.Rule.Kind = 5)) fun t572 =>
 bif t572 then
 (slices_Clone_api_Pair_api_Pair a1.Attrs).bind fun r576 =>
 ((flow (loop (relabel_rule_turn_lp1 a0 r576) 0) fun (_ : Unit) =>
 some (-1) : Option Int).bind fun x596 =>
 bif decide (x596 = (-1)) then
 some r576
 else
 lett (w64 (x596 + 1)) fun j670 =>
 (flow (loop (relabel_rule_turn_lp2 a0) (r576, x596, j670)) fun (s688, i691) =>
 some (s688, i691) : Option (List api_Pair × Int)).bind fun (s671, i674) =>
 (slc s671 i674 (s671.length : Int)).bind fun tl815 =>
 (slc (clr s671 i674 (api_Pair.mk [] [])) 0 i674).bind fun t821 =>
 some t821 : Option (List api_Pair)).bind fun x588 =>
 some (true, (api_Point.mk a1.Name x588 a1.Kind a1.Temp a1.Mono a1.Start a1.Time a1.Int_ a1.Re a1.Im a1.Hist a1.Flags))
 else
 some (true, a1)
noncomputable def relabel_Rules_run_lp1 (a0 : relabel_Rules) : (List UInt8 × List api_Pair × Int × Int × Bool × Int × Int × Int × UInt64 × UInt64 × Int × UInt64 × Int × List UInt64 × Int × List UInt64 × Int × Int) → Option (Rnd (List UInt8 × List api_Pair × Int × Int × Bool × Int × Int × Int × UInt64 × UInt64 × Int × UInt64 × Int × List UInt64 × Int × List UInt64 × Int × Int) (List UInt8 × List api_Pair × Int × Int × Bool × Int × Int × Int × UInt64 × UInt64 × Int × UInt64 × Int × List UInt64 × Int × List UInt64 × Int) (Int × api_Point)) := fun (c18, c19, c22, c23, c24, c25, c26, c27, c28, c29, c30, c31, c32, c33, c36, c37, c40, x41) =>
 bif decide (x41 < (a0.l.length : Int)) then
 (idx a0.l x41).bind fun e79 =>
 (relabel_rule_turn e79 (api_Point.mk c18 c19 c22 c23 c24 c25 c26 c27 c28 c29 (api_Hist.mk c30 c31 (api_Side.mk c32 c33) (api_Side.mk c36 c37)) c40)).bind fun (r114, r115) =>
 bif (!r114) then
 outr (some (x41, r115))
 else
 some (.next (r115.Name, r115.Attrs, r115.Kind, r115.Temp, r115.Mono, r115.Start, r115.Time, r115.Int_, r115.Re, r115.Im, r115.Hist.Scale, r115.Hist.Zero, r115.Hist.Pos.Offset, r115.Hist.Pos.Counts, r115.Hist.Neg.Offset, r115.Hist.Neg.Counts, r115.Flags, w64 (x41 + 1)))
 else
 some (.brk (c18, c19, c22, c23, c24, c25, c26, c27, c28, c29, c30, c31, c32, c33, c36, c37, c40))
noncomputable def relabel_Rules_run (a0 : relabel_Rules) (a1 : api_Point) : Option (Int × api_Point) :=
 flow (loop (relabel_Rules_run_lp1 a0) (a1.Name, a1.Attrs, a1.Kind, a1.Temp, a1.Mono, a1.Start, a1.Time, a1.Int_, a1.Re, a1.Im, a1.Hist.Scale, a1.Hist.Zero, a1.Hist.Pos.Offset, a1.Hist.Pos.Counts, a1.Hist.Neg.Offset, a1.Hist.Neg.Counts, a1.Flags, 0)) fun (c46, c47, c50, c51, c52, c53, c54, c55, c56, c57, c58, c59, c60, c61, c64, c65, c68) =>
 some ((-1), (api_Point.mk c46 c47 c50 c51 c52 c53 c54 c55 c56 c57 (api_Hist.mk c58 c59 (api_Side.mk c60 c61) (api_Side.mk c64 c65)) c68))
noncomputable def relabel_Rules_Apply (a0 : relabel_Rules) (a1 : api_Point) : Option (api_Point × Bool × Int) :=
 (point_Check a1).bind fun r45 =>
 bif (!decide (r45 = 0)) then
 some ((api_Point.mk [] [] 0 0 false 0 0 0 0 0 (api_Hist.mk 0 0 (api_Side.mk 0 []) (api_Side.mk 0 [])) 0), false, r45)
 else
 (point_Clone a1).bind fun r64 =>
 (relabel_Rules_run a0 r64).bind fun (r115, r116) =>
 bif decide (0 ≤ r115) then
 some ((api_Point.mk [] [] 0 0 false 0 0 0 0 0 (api_Hist.mk 0 0 (api_Side.mk 0 []) (api_Side.mk 0 [])) 0), false, 0)
 else
 (point_Check r116).bind fun r144 =>
 bif (!decide (r144 = 0)) then
 some ((api_Point.mk [] [] 0 0 false 0 0 0 0 0 (api_Hist.mk 0 0 (api_Side.mk 0 []) (api_Side.mk 0 [])) 0), false, r144)
 else
 (label_Sorted r116.Attrs).bind fun r161 =>
 some ((api_Point.mk r116.Name r161 r116.Kind r116.Temp r116.Mono r116.Start r116.Time r116.Int_ r116.Re r116.Im r116.Hist r116.Flags), true, 0)
noncomputable def relabel_Rules_Stop (a0 : relabel_Rules) (a1 : api_Point) : Option Int :=
 (point_Check a1).bind fun r36 =>
 bif (!decide (r36 = 0)) then
 some (-1)
 else
 (point_Clone a1).bind fun r51 =>
 (relabel_Rules_run a0 r51).bind fun (r108, r109) =>
 some r108
noncomputable def law33_awake  : Option Bool :=
 (relabel_Compile [(api_Rule.mk 2 [] [116, 109, 112, 46, 42] [] []), (api_Rule.mk 3 [] [42] [101, 110, 118] [112, 114, 111, 100])]).bind fun (r18, r19, r20) =>
 (relabel_Compile [(api_Rule.mk 1 [] [42] [] []), (api_Rule.mk 1 [] [91] [] [])]).bind fun (r38, r39, r40) =>
 (r18).bind fun d54 =>
 (bif (((r18.isNone || (!decide (r20 = 0))) || (!decide (r39 = 1))) || (!decide (r40 = 2))) then
 some true
 else
 (relabel_Rules_Len d54).bind fun r72 =>
 some (!decide (r72 = 2)) : Option Bool).bind fun x61 =>
 bif x61 then
 some false
 else
 (relabel_Rules_Apply d54 (api_Point.mk [97] [] 3 0 false 0 0 0 0 0 (api_Hist.mk 0 0 (api_Side.mk 0 []) (api_Side.mk 0 [])) 0)).bind fun (r89, r90, r91) =>
 (relabel_Rules_Apply d54 (api_Point.mk [116, 109, 112, 46, 97] [] 3 0 false 0 0 0 0 0 (api_Hist.mk 0 0 (api_Side.mk 0 []) (api_Side.mk 0 [])) 0)).bind fun (r141, r142, r143) =>
 (bif ((r90 && (decide (r91 = 0))) && (decide ((r89.Attrs.length : Int) = 1))) then
 (idx r89.Attrs 0).bind fun e203 =>
 some (decide (e203.Val = [112, 114, 111, 100]))
 else
 some false : Option Bool).bind fun x196 =>
 (bif ((x196 && (!r142)) && (decide (r143 = 0))) then
 (relabel_Rules_Stop d54 (api_Point.mk [116, 109, 112, 46, 97] [] 3 0 false 0 0 0 0 0 (api_Hist.mk 0 0 (api_Side.mk 0 []) (api_Side.mk 0 [])) 0)).bind fun r232 =>
 some (decide (r232 = 0))
 else
 some false : Option Bool).bind fun x219 =>
 some x219
noncomputable def ref33_Few_lp1 (a0 : List api_Rule) : Int → Option (Rnd Int Unit Bool) := fun i14 =>
 bif decide (i14 < (a0.length : Int)) then
 (idx a0 i14).bind fun e22 =>
 (bif decide (70 < (e22.Glob.length : Int)) then
 some true
 else
 (idx a0 i14).bind fun e38 =>
 some (decide (100 < (e38.Key.length : Int))) : Option Bool).bind fun x34 =>
 (bif x34 then
 some true
 else
 (idx a0 i14).bind fun e54 =>
 some (decide (100 < (e54.To.length : Int))) : Option Bool).bind fun x50 =>
 (bif x50 then
 some true
 else
 (idx a0 i14).bind fun e70 =>
 some (decide (100 < (e70.Val.length : Int))) : Option Bool).bind fun x66 =>
 bif x66 then
 outr (some false)
 else
 lett (w64 (i14 + 1)) fun i84 =>
 some (.next i84)
 else
 some (.brk ())
noncomputable def ref33_Few (a0 : List api_Rule) : Option Bool :=
 bif decide (70 < (a0.length : Int)) then
 some false
 else
 flow (loop (ref33_Few_lp1 a0) 0) fun (_ : Unit) =>
 some true
noncomputable def law33_RelabelParts (a0 : List api_Rule) (a1 : Int) (a2 : api_Point) : Option Bool :=
 (law33_awake).bind fun r34 =>
 bif (!r34) then
 some false
 else
 (ref33_Few a0).bind fun r47 =>
 (bif (!r47) then
 some true
 else
 (ref12_Light a2).bind fun r74 =>
 some (!r74) : Option Bool).bind fun x56 =>
 bif x56 then
 some true
 else
 lett ((min (max a1 0) (a0.length : Int))) fun at87 =>
 (relabel_Compile a0).bind fun (r91, r92, r93) =>
 (slc a0 0 at87).bind fun t104 =>
 (relabel_Compile t104).bind fun (r110, r111, r112) =>
 (slc a0 at87 (a0.length : Int)).bind fun t123 =>
 (relabel_Compile t123).bind fun (r129, r130, r131) =>
 bif ((r91.isNone || r110.isNone) || r129.isNone) then
 some r91.isNone
 else
 (r91).bind fun d152 =>
 (relabel_Rules_Apply d152 a2).bind fun (r184, r185, r186) =>
 (r110).bind fun d233 =>
 (relabel_Rules_Apply d233 a2).bind fun (r257, r258, r259) =>
 bif (!decide (r259 = 0)) then
 some true
 else
 bif (!r258) then
 lett (((!r185) && (decide (r186 = 0)))) fun t307 =>
 some t307
 else
 (r129).bind fun d309 =>
 (relabel_Rules_Apply d309 r257).bind fun (r331, r332, r333) =>
 (bif ((!decide (r332 = r185)) || (!decide (r333 = r186))) then
 some true
 else
 (ref12_Same r184 r331).bind fun r415 =>
 some (!r415) : Option Bool).bind fun x378 =>
 bif x378 then
 some false
 else
 bif (!r185) then
 some true
 else
 (ref12_Same (api_Point.mk a2.Name a2.Attrs r184.Kind r184.Temp r184.Mono r184.Start r184.Time r184.Int_ r184.Re r184.Im r184.Hist r184.Flags) a2).bind fun r497 =>
 some r497
def rep_api_Rule : Rep api_Rule := Rep.via (Rep.pair Rep.i (Rep.pair Rep.s (Rep.pair Rep.s (Rep.pair Rep.s Rep.s)))) fun d => (d.Kind, d.Key, d.Glob, d.To, d.Val)
def rep_relabel_rule : Rep relabel_rule := Rep.via (Rep.pair rep_api_Rule (Rep.ptr rep_glob_Glob 96)) fun d => (d.Rule, d.g)
end Go.Lg
namespace Go.Lg
attribute [local irreducible] w64 toU64 toU8 shlU shrU shlB shrB spanS
/-! ### the first that is sought -/
def idxI : Option Nat → Int
  | some k => (k : Int)
  | none => -1
def idxF {ρ : Type} (g : Nat → ρ) : Option Nat → Flow Unit ρ
  | some k => .out (g k)
  | none => .go ()
theorem find_loop {α : Type} {f : Int → Option (Rnd Int Unit Int)} {l : List α} (d : α → Bool) (hl : l.length ≤ 100000)
    (hs : ∀ (i : Nat) (h : i < l.length), f (i : Int) = some (if d l[i] = true then .out (i : Int) else .next (w64 ((i : Int) + 1)))) (he : f (l.length : Int) = some (.brk ())) :
    loop f 0 = some (idxF (fun k => (k : Int)) (l.findIdx? d)) := by
  have key : ∀ (m i : Nat), i + m = l.length → loop f (i : Int) = some (idxF (fun k => (k : Int)) (((l.drop i).findIdx? d).map (· + i))) := by
    intro m
    induction m with
    | zero =>
      intro i hi
      have : i = l.length := by omega
      subst this
      rw [loop_brk he, List.drop_eq_nil_of_le (Nat.le_refl _)]; rfl
    | succ m ih =>
      intro i hi
      have hlt : i < l.length := by omega
      have h1 := hs i hlt
      rw [List.drop_eq_getElem_cons hlt, List.findIdx?_cons]
      by_cases hd : d l[i] = true
      · rw [if_pos hd] at h1
        rw [loop_out h1, if_pos hd]
        simp [idxF]
      · rw [if_neg hd, w64_succ (by omega)] at h1
        rw [loop_next h1, ih (i + 1) (by omega), if_neg hd]
        congr 1
        cases (l.drop (i + 1)).findIdx? d with
        | none => rfl
        | some k => simp only [Option.map_some, idxF]; congr 1; omega
  have := key l.length 0 (by omega)
  rw [List.drop_zero] at this
  rw [show (0 : Int) = ((0 : Nat) : Int) from rfl, this]
  cases l.findIdx? d <;> rfl
theorem find_eq {l : List api_Pair} {k : List UInt8} (hl : l.length ≤ 100000) : relabel_find l k = some (idxI (l.findIdx? fun a => decide (a.Key = k))) := by
  unfold relabel_find
  rw [find_loop (l := l) (fun a => decide (a.Key = k)) hl (fun i h => by
    unfold relabel_find_lp1
    rw [bifTd (by omega), idx_nat h, bind_some, lett_eq, bind_some]
    by_cases e : l[i].Key = k
    · rw [bifTd e, if_pos (by simp [e])]; rfl
    · rw [bifFd e, if_neg (by simp [e])]) (by
    unfold relabel_find_lp1
    rw [bifFd (by omega)])]
  cases l.findIdx? fun a => decide (a.Key = k) <;> rfl
/-! ### all but some -/
theorem del_loop {f : List api_Pair × Int × Int → Option (Rnd (List api_Pair × Int × Int) (List api_Pair × Int) (List api_Pair × Int))} (d : api_Pair → Bool) {n : Nat} {s0 : List api_Pair}
    (hs : ∀ (s : List api_Pair) (i j : Nat) (h : j < s.length), i ≤ j → s.length = n → s[j] ∈ s0 → f (s, (i : Int), (j : Int)) = some (.next (if d s[j] = true then (s, (i : Int), ((j + 1 : Nat) : Int)) else (s.set i s[j], ((i + 1 : Nat) : Int), ((j + 1 : Nat) : Int)))))
    (he : ∀ (s : List api_Pair) (i : Int), s.length = n → f (s, i, (n : Int)) = some (.brk (s, i))) (h0 : s0.length = n) :
    ∀ (m : Nat) (s : List api_Pair) (i j : Nat), j + m = n → s.length = n → i ≤ j → s.take i = (s0.take j).filter (fun a => !d a) → s.drop j = s0.drop j →
      ∃ s', loop f (s, (i : Int), (j : Int)) = some (.go (s', ((s0.filter fun a => !d a).length : Int))) ∧ s'.length = n ∧ s'.take (s0.filter fun a => !d a).length = s0.filter fun a => !d a := by
  intro m
  induction m with
  | zero =>
    intro s i j hj hl hij h1 h2
    have : j = n := by omega
    subst this
    have e0 : s0.take j = s0 := List.take_of_length_le (by omega)
    rw [e0] at h1
    have hi : i = (s0.filter fun a => !d a).length := by
      rw [← h1, List.length_take]; omega
    exact ⟨s, by rw [loop_brk (he s i hl), hi], hl, by rw [← hi]; exact h1⟩
  | succ m ih =>
    intro s i j hj hl hij h1 h2
    have hlt : j < s.length := by omega
    have hlt0 : j < s0.length := by omega
    have hej : s[j] = s0[j] := by
      have : (s.drop j).head? = (s0.drop j).head? := by rw [h2]
      rw [List.head?_drop, List.head?_drop, List.getElem?_eq_getElem hlt, List.getElem?_eq_getElem hlt0] at this
      exact Option.some.inj this
    have hd1 : s.drop (j + 1) = s0.drop (j + 1) := by rw [← List.tail_drop, h2, List.tail_drop]
    have hst := hs s i j hlt hij hl (by rw [hej]; exact List.getElem_mem hlt0)
    have htk : (s0.take (j + 1)).filter (fun a => !d a) = (s0.take j).filter (fun a => !d a) ++ if d s0[j] = true then [] else [s0[j]] := by
      rw [List.take_succ_eq_append_getElem hlt0, List.filter_append]
      congr 1
      by_cases hd : d s0[j] = true
      · rw [if_pos hd]; simp [hd]
      · rw [if_neg hd]; simp [hd]
    rw [hej] at hst
    by_cases hd : d s0[j] = true
    · rw [if_pos hd] at hst htk
      obtain ⟨s', q1, q2, q3⟩ := ih s i (j + 1) (by omega) hl (by omega) (by rw [htk, List.append_nil, h1]) hd1
      exact ⟨s', by rw [loop_next hst, q1], q2, q3⟩
    · rw [if_neg hd] at hst htk
      obtain ⟨s', q1, q2, q3⟩ := ih (s.set i s0[j]) (i + 1) (j + 1) (by omega) (by rw [List.length_set]; exact hl) (by omega) (by
        rw [htk, ← h1, List.take_succ_eq_append_getElem (by rw [List.length_set]; omega), List.take_set_of_le (by omega), List.getElem_set_self]) (by rw [List.drop_set_of_lt (by omega)]; exact hd1)
      exact ⟨s', by rw [loop_next hst, q1], q2, q3⟩
/-- what is left by a deletion, as the program does it -/
theorem del_eq {fi : Int → Option (Rnd Int Unit Int)} {f : List api_Pair × Int × Int → Option (Rnd (List api_Pair × Int × Int) (List api_Pair × Int) (List api_Pair × Int))} (d : api_Pair → Bool) {l : List api_Pair} (hl : l.length ≤ 1000)
    (hf : loop fi 0 = some (idxF (fun k => (k : Int)) (l.findIdx? d)))
    (hs : ∀ (s : List api_Pair) (i j : Nat) (h : j < s.length), i ≤ j → s.length = l.length → s[j] ∈ l → f (s, (i : Int), (j : Int)) = some (.next (if d s[j] = true then (s, (i : Int), ((j + 1 : Nat) : Int)) else (s.set i s[j], ((i + 1 : Nat) : Int), ((j + 1 : Nat) : Int)))))
    (he : ∀ (s : List api_Pair) (i : Int), s.length = l.length → f (s, i, (l.length : Int)) = some (.brk (s, i))) :
    ((flow (loop fi 0) fun (_ : Unit) =>
     some (-1) : Option Int).bind fun x38 =>
     bif decide (x38 = (-1)) then
     some l
     else
     lett (w64 (x38 + 1)) fun j90 =>
     (flow (loop f (l, x38, j90)) fun (s108, i111) =>
     some (s108, i111) : Option (List api_Pair × Int)).bind fun (s91, i94) =>
     (slc s91 i94 (s91.length : Int)).bind fun tl210 =>
     (slc (clr s91 i94 (api_Pair.mk [] [])) 0 i94).bind fun t216 =>
     some t216 : Option (List api_Pair)) = some (l.filter fun a => !d a) := by
  rw [hf]
  cases hq : l.findIdx? d with
  | none =>
    rw [show idxF (fun k => (k : Int)) (none : Option Nat) = (.go () : Flow Unit Int) from rfl, flow_go, bind_some, bifTd rfl]
    congr 1
    rw [List.findIdx?_eq_none_iff] at hq
    exact (List.filter_eq_self.2 fun a ha => by rw [hq a ha]; rfl).symm
  | some k =>
    obtain ⟨hk, hdk, hbef⟩ := List.findIdx?_eq_some_iff_getElem.1 hq
    rw [show idxF (fun k => (k : Int)) (some k) = (.out (k : Int) : Flow Unit Int) from rfl, flow_out, bind_some, bifFd (by omega), lett_eq, w64_succ (by omega)]
    have hpre : l.take k = (l.take (k + 1)).filter fun a => !d a := by
      rw [List.take_succ_eq_append_getElem hk, List.filter_append]
      have e1 : (l.take k).filter (fun a => !d a) = l.take k := List.filter_eq_self.2 fun a ha => by
        obtain ⟨j, hj, rfl⟩ := List.getElem_of_mem ha
        rw [List.length_take] at hj
        rw [List.getElem_take]
        have := hbef j (by omega)
        simpa using this
      rw [e1]; simp [hdk]
    obtain ⟨s', q1, q2, q3⟩ := del_loop (s0 := l) d hs he rfl (l.length - (k + 1)) l k (k + 1) (by omega) rfl (by omega) hpre rfl
    have hle : (l.filter fun a => !d a).length ≤ l.length := List.length_filter_le _ _
    rw [q1, flow_go, bind_some]
    dsimp only
    rw [slc_nat (by omega) (by omega), bind_some]
    have hc : (clr s' ((l.filter fun a => !d a).length : Int) (⟨[], []⟩ : api_Pair)).length = s'.length := by
      unfold clr
      rw [Int.toNat_natCast, List.length_append, List.length_take, List.length_replicate]; omega
    rw [show (0 : Int) = ((0 : Nat) : Int) from rfl, slc_nat (by omega) (by rw [hc]; omega), bind_some, List.drop_zero]
    congr 1
    unfold clr
    rw [Int.toNat_natCast, List.take_append_of_le_length (by rw [List.length_take]; omega), List.take_take, Nat.min_self, q3]
theorem cloneP_eq {l : List api_Pair} (hl : l.length ≤ 100000) : slices_Clone_api_Pair_api_Pair l = some l := by
  unfold slices_Clone_api_Pair_api_Pair
  rw [app_ok (by simp; omega)]; rfl
def woA (l : List api_Pair) (k : List UInt8) : List api_Pair := l.filter fun a => !decide (a.Key = k)
theorem without_eq {l : List api_Pair} {k : List UInt8} (hl : l.length ≤ 1000) : relabel_without l k = some (woA l k) := by
  unfold relabel_without
  rw [cloneP_eq (by omega), bind_some]
  have := del_eq (fi := relabel_without_lp1 k l) (f := relabel_without_lp2 k) (fun a => decide (a.Key = k)) hl (find_loop (l := l) (fun a => decide (a.Key = k)) (by omega) (fun i h => by
      unfold relabel_without_lp1
      rw [bifTd (by omega), idx_nat h, bind_some, lett_eq, bind_some]
      by_cases e : l[i].Key = k
      · rw [bifTd e, if_pos (by simp [e])]; rfl
      · rw [bifFd e, if_neg (by simp [e])]) (by
      unfold relabel_without_lp1
      rw [bifFd (by omega)])) (fun s i j h hij hn _ => by
      unfold relabel_without_lp2
      dsimp only
      rw [bifTd (by omega), idx_nat h, bind_some, lett_eq, bind_some]
      by_cases e : s[j].Key = k
      · rw [bifF (by simp [e]), bind_some]
        dsimp only
        rw [lett_eq, w64_succ (by omega), if_pos (by simp [e])]
      · rw [bifT (by simp [e]), idx_nat (by omega), bind_some, setI_nat (by omega), bind_some, lett_eq, bind_some]
        dsimp only
        rw [lett_eq, w64_succ (by omega), w64_succ (by omega), if_neg (by simp [e])]) (fun s i hn => by
      unfold relabel_without_lp2
      dsimp only
      rw [bifFd (by omega)])
  rw [this, bind_some]; rfl
end Go.Lg
namespace Go.Lg
attribute [local irreducible] w64 toU64 toU8 shlU shrU shlB shrB spanS
theorem labelE_nil (s : List UInt8) : labelE s [] = if nameOk s = true then 0 else 3 := by
  unfold labelE
  cases nameOk s <;> rfl
theorem isKey_eq (s : List UInt8) : relabel_isKey s = some (nameOk s) := by
  unfold relabel_isKey
  rw [label_eq, bind_some, lett_eq, labelE_nil]
  cases nameOk s <;> rfl
theorem labelE_one (s : List UInt8) : labelE [120] [⟨[120], s⟩] = if valueOk s = true then 0 else 3 := by
  have hn : nameOk [120] = true := by decide
  have hd : dupB [⟨[120], s⟩] 0 = false := by
    unfold dupB
    rw [decide_eq_false]
    rintro ⟨k, hk, _⟩
    omega
  unfold labelE
  rw [hn, if_neg (by simp), if_neg (by simp), List.length_singleton]
  unfold firstE
  have : pairE [⟨[120], s⟩] 0 = if valueOk s = true then none else some 3 := by
    unfold pairE
    rw [show ([⟨[120], s⟩] : List api_Pair).getD 0 P0 = ⟨[120], s⟩ from rfl, hd]
    dsimp only
    rw [hn, Bool.true_and]
    cases valueOk s <;> rfl
  rw [this]
  cases valueOk s
  · rfl
  · simp [firstE]
theorem isValueR_eq (s : List UInt8) : relabel_isValue s = some (valueOk s) := by
  unfold relabel_isValue
  rw [label_eq, bind_some, lett_eq, labelE_one]
  cases valueOk s <;> rfl
/-- what is wrong with a rule -/
def restB (r : api_Rule) : Bool :=
  if r.Kind = 4 then !decide (r.Key = []) && nameOk r.To && decide (r.Val = []) else if r.Kind = 3 then nameOk r.To && valueOk r.Val
  else if r.Kind = 5 then decide (r.Key = []) && decide (r.To = []) && decide (r.Val = []) else decide (r.To = []) && decide (r.Val = [])
def keyB (r : api_Rule) : Bool := decide (r.Key = []) || nameOk r.Key
def ruleE (r : api_Rule) : Int :=
  if r.Kind < 1 ∨ 5 < r.Kind then 14
  else match comp r.Glob with
  | .inl x => x.2
  | .inr _ => if (keyB r && restB r) = true then 0 else 3
theorem rest4 {r : api_Rule} (h : r.Kind = 4) : restB r = (!decide (r.Key = []) && nameOk r.To && decide (r.Val = [])) := by unfold restB; rw [if_pos h]
theorem rest3 {r : api_Rule} (h : r.Kind = 3) : restB r = (nameOk r.To && valueOk r.Val) := by unfold restB; rw [if_neg (by omega), if_pos h]
theorem rest5 {r : api_Rule} (h : r.Kind = 5) : restB r = (decide (r.Key = []) && decide (r.To = []) && decide (r.Val = [])) := by unfold restB; rw [if_neg (by omega), if_neg (by omega), if_pos h]
theorem rest0 {r : api_Rule} (h4 : r.Kind ≠ 4) (h3 : r.Kind ≠ 3) (h5 : r.Kind ≠ 5) : restB r = (decide (r.To = []) && decide (r.Val = [])) := by unfold restB; rw [if_neg h4, if_neg h3, if_neg h5]
theorem check_eq33 (r : api_Rule) : relabel_Check r = some (ruleE r) := by
  unfold relabel_Check ruleE
  by_cases h : r.Kind < 1 ∨ 5 < r.Kind
  · rw [bifT (by simpa using h), if_pos h]
  rw [bifF (by rw [Bool.or_eq_false_iff, decide_eq_false_iff_not, decide_eq_false_iff_not]; omega), if_neg h, compile_g]
  cases hc : comp r.Glob with
  | inl x =>
    have := comp_no hc
    dsimp only [GC2]
    rw [bind_some, bifT (by simp [this])]
  | inr ps =>
    dsimp only [GC2]
    rw [bind_some, bifF (by simp)]
    have e1 : (bif decide (r.Key = []) then some true else (relabel_isKey r.Key).bind fun r44 => some r44 : Option Bool) = some (keyB r) := by
      unfold keyB
      by_cases k : r.Key = []
      · rw [bifTd k, decide_eq_true k]; rfl
      · rw [bifFd k, isKey_eq, bind_some, decide_eq_false k, Bool.false_or]
    rw [e1, bind_some, lett_eq]
    by_cases k4 : r.Kind = 4
    · rw [bifTd k4, rest4 k4]
      cases hk : (keyB r && !decide (r.Key = [])) with
      | false =>
        rw [cond_false, bind_some, lett_eq, bind_some, ← Bool.and_assoc, ← Bool.and_assoc, hk]; rfl
      | true =>
        rw [cond_true, isKey_eq, bind_some, bind_some, lett_eq, bind_some, ← Bool.and_assoc, ← Bool.and_assoc, hk, Bool.true_and]
        cases (nameOk r.To && decide (r.Val = [])) <;> rfl
    · rw [bifFd k4, lett_eq]
      by_cases k3 : r.Kind = 3
      · rw [bifTd k3, rest3 k3]
        cases keyB r with
        | false => rfl
        | true =>
          rw [cond_true, isKey_eq, bind_some, bind_some]
          cases nameOk r.To with
          | false => rfl
          | true =>
            rw [cond_true, isValueR_eq, bind_some, bind_some, bind_some]
            cases valueOk r.Val <;> rfl
      · rw [bifFd k3, lett_eq]
        by_cases k5 : r.Kind = 5
        · rw [bifTd k5, lett_eq, bind_some, rest5 k5]
          unfold keyB
          by_cases a : r.Key = [] <;> by_cases b : r.To = [] <;> by_cases c : r.Val = [] <;> simp [a, b, c]
        · rw [bifFd k5, lett_eq, bind_some, rest0 k4 k3 k5, ← Bool.and_assoc]
          cases (keyB r && decide (r.To = []) && decide (r.Val = [])) <;> rfl
/-- a rule with its pattern -/
def mkR (r : api_Rule) : relabel_rule := ⟨r, (GC2 r.Glob (comp r.Glob)).1⟩
/-- the first rule that is not right -/
def badR : List api_Rule → Nat → Option (Nat × Int)
  | [], _ => none
  | r :: rs, i => if ruleE r ≠ 0 then some (i, ruleE r) else badR rs (i + 1)
def compR (l : List api_Rule) : Option relabel_Rules × Int × Int :=
  if 64 < l.length then (none, 64, 4) else match badR l 0 with
  | some x => (none, (x.1 : Int), x.2)
  | none => (some ⟨l.map mkR⟩, 0, 0)
def badF (acc : List relabel_rule) : Option (Nat × Int) → Flow (List relabel_rule) (Option relabel_Rules × Int × Int)
  | some x => .out (none, (x.1 : Int), x.2)
  | none => .go acc
theorem compR_loop {l : List api_Rule} (hl : l.length ≤ 64) : ∀ (m i : Nat), i + m = l.length → loop (relabel_Compile_lp1 l) ((l.take i).map mkR, (i : Int)) = some (badF (l.map mkR) (badR (l.drop i) i)) := by
  intro m
  induction m with
  | zero =>
    intro i hi
    rw [List.drop_eq_nil_of_le (by omega), List.take_of_length_le (by omega)]
    refine loop_brk ?_
    unfold relabel_Compile_lp1
    dsimp only
    rw [bifFd (by omega)]
  | succ m ih =>
    intro i hi
    have hlt : i < l.length := by omega
    rw [List.drop_eq_getElem_cons hlt]
    unfold badR
    by_cases e : ruleE l[i] = 0
    · have hst : relabel_Compile_lp1 l ((l.take i).map mkR, (i : Int)) = some (.next ((l.take (i + 1)).map mkR, ((i + 1 : Nat) : Int))) := by
        unfold relabel_Compile_lp1
        dsimp only
        rw [bifTd (by omega), idx_nat hlt, bind_some, check_eq33, bind_some, bifF (by simp [e]), compile_g, bind_some]
        rw [app_ok (by simp; omega), bind_some, w64_succ (by omega), List.take_succ_eq_append_getElem hlt, List.map_append]
        rfl
      rw [loop_next hst, if_neg (fun h => h e), ih (i + 1) (by omega)]
    · rw [if_pos e]
      refine loop_out ?_
      unfold relabel_Compile_lp1
      dsimp only
      rw [bifTd (by omega), idx_nat hlt, bind_some, check_eq33, bind_some, bifT (by simp [e])]
      rfl
theorem compR_eq (l : List api_Rule) : relabel_Compile l = some (compR l) := by
  unfold relabel_Compile compR
  by_cases h : 64 < l.length
  · rw [bifTd (by omega), if_pos h]
  · have := compR_loop (l := l) (by omega) l.length 0 (by omega)
    rw [List.take_zero, List.drop_zero, List.map_nil] at this
    rw [bifFd (by omega), if_neg h, show (0 : Int) = ((0 : Nat) : Int) from rfl, this]
    cases badR l 0 <;> rfl
theorem badR_none {l : List api_Rule} : ∀ {i : Nat}, badR l i = none → ∀ r ∈ l, ruleE r = 0 := by
  induction l with
  | nil => intro i _ r hr; cases hr
  | cons x xs ih =>
    intro i h r hr
    unfold badR at h
    split at h
    · cases h
    · rename_i e
      rcases List.mem_cons.1 hr with rfl | hr
      · exact Classical.not_not.1 e
      · exact ih h r hr
theorem badR_of {l : List api_Rule} : ∀ {i : Nat}, (∀ r ∈ l, ruleE r = 0) → badR l i = none := by
  induction l with
  | nil => intro i _; rfl
  | cons x xs ih =>
    intro i h
    unfold badR
    rw [if_neg (fun e => e (h x (by simp)))]
    exact ih fun r hr => h r (by simp [hr])
theorem badR_err {l : List api_Rule} : ∀ {i : Nat} {x : Nat × Int}, badR l i = some x → x.2 ≠ 0 := by
  induction l with
  | nil => intro i x h; cases h
  | cons y ys ih =>
    intro i x h
    unfold badR at h
    split at h
    · rename_i e; cases h; exact e
    · exact ih h
/-- what a right rule is -/
structure GoodR (r : api_Rule) : Prop where
  k : 1 ≤ r.Kind ∧ r.Kind ≤ 5
  c : ∃ ps, comp r.Glob = .inr ps
  n : r.Key = [] ∨ nameOk r.Key = true
  k4 : r.Kind = 4 → r.Key ≠ [] ∧ nameOk r.To = true
  k3 : r.Kind = 3 → nameOk r.To = true ∧ valueOk r.Val = true
theorem goodR {r : api_Rule} (h : ruleE r = 0) : GoodR r := by
  unfold ruleE at h
  split at h
  · cases h
  · rename_i hk
    split at h
    · rename_i x hx
      exact absurd h (comp_no hx)
    · rename_i ps hp
      split at h
      · rename_i g
        rw [Bool.and_eq_true] at g
        refine ⟨by omega, ⟨ps, hp⟩, by simpa [keyB] using g.1, fun e => ?_, fun e => ?_⟩
        · have := g.2
          rw [rest4 e] at this
          simp only [Bool.and_eq_true, Bool.not_eq_true', decide_eq_false_iff_not] at this
          exact this.1
        · have := g.2
          rw [rest3 e] at this
          simpa using this
      · cases h
end Go.Lg
namespace Go.Lg
attribute [local irreducible] w64 toU64 toU8 shlU shrU shlB shrB spanS
/-- an attribute's value -/
def getA (l : List api_Pair) (k : List UInt8) : Option (List UInt8) := (l.find? fun a => decide (a.Key = k)).map (·.Val)
/-- does a rule's pattern match -/
def mG (r : api_Rule) (s : List UInt8) : Bool := match comp r.Glob with
  | .inl _ => false
  | .inr ps => mt (ps.map pcOf) s
def looked (r : api_Rule) (n : List UInt8) (l : List api_Pair) : Option (List UInt8) := if r.Key = [] then some n else getA l r.Key
def holdsE (r : api_Rule) (n : List UInt8) (l : List api_Pair) : Bool := mG r ((looked r n l).getD [])
/-- what a rule makes of attributes; none: the point is let go -/
def turnE (r : api_Rule) (n : List UInt8) (l : List api_Pair) : Option (List api_Pair) :=
  if r.Kind = 1 then (if holdsE r n l = true then some l else none)
  else if r.Kind = 2 then (if holdsE r n l = true then none else some l)
  else if r.Kind = 3 then (if holdsE r n l = true then some (woA l r.To ++ [⟨r.To, r.Val⟩]) else some l)
  else if r.Kind = 4 then (match getA l r.Key with
    | some v => if holdsE r n l = true then some (woA (woA l r.Key) r.To ++ [⟨r.To, v⟩]) else some l
    | none => some l)
  else some (l.filter fun a => !mG r a.Key)
/-- texts that are not too long -/
structure Sh (n : List UInt8) (l : List api_Pair) : Prop where
  n : n.length ≤ 1000
  kv : ∀ a ∈ l, a.Key.length ≤ 1000 ∧ a.Val.length ≤ 1000
theorem getA_idx {l : List api_Pair} {k : List UInt8} : getA l k = (l.findIdx? fun a => decide (a.Key = k)).bind fun i => l[i]?.map (·.Val) := by
  unfold getA
  induction l with
  | nil => rfl
  | cons a l ih =>
    rw [List.find?_cons, List.findIdx?_cons]
    cases h : decide (a.Key = k) with
    | true => rfl
    | false =>
      rw [if_neg (by simp)]
      simp only
      rw [ih]
      cases (l.findIdx? fun a => decide (a.Key = k)) <;> rfl
theorem getA_mem {l : List api_Pair} {k v : List UInt8} (h : getA l k = some v) : ∃ a ∈ l, a.Key = k ∧ a.Val = v := by
  unfold getA at h
  obtain ⟨a, h1, h2⟩ := Option.map_eq_some_iff.1 h
  have h3 := List.find?_some h1
  exact ⟨a, List.mem_of_find?_eq_some h1, by simpa using h3, h2⟩
section
variable {r : api_Rule} {n : List UInt8} {l : List api_Pair} {p : api_Point}
theorem match_mG (g : GoodR r) {s : List UInt8} (hs : s.length ≤ 1000) : ((mkR r).g).bind (fun d => (glob_Glob_Match d s).bind fun x => some x) = some (mG r s) := by
  obtain ⟨ps, hp⟩ := g.c
  have hl := comp_len hp
  unfold mkR mG
  rw [hp]
  dsimp only [GC2]
  rw [bind_some, gmatch_eq _ _ (by dsimp only; omega) hs, bind_some]
theorem looked_len (sh : Sh n l) : ((looked r n l).getD []).length ≤ 1000 := by
  unfold looked
  split
  · exact sh.n
  · cases h : getA l r.Key with
    | none => exact Nat.zero_le _
    | some v =>
      obtain ⟨a, h1, _, h2⟩ := getA_mem h
      rw [← h2]; exact (sh.kv a h1).2
theorem holds_eq (g : GoodR r) (sh : Sh p.Name p.Attrs) (hl : p.Attrs.length ≤ 1000) : relabel_rule_holds (mkR r) p = some (holdsE r p.Name p.Attrs) := by
  unfold relabel_rule_holds
  have e : (bif (!decide ((mkR r).Rule.Key = [])) then
      (relabel_find p.Attrs (mkR r).Rule.Key).bind fun r49 =>
      bif decide (0 ≤ r49) then
      (idx p.Attrs r49).bind fun e60 =>
      some e60.Val
      else
      some []
      else
      some p.Name : Option (List UInt8)) = some ((looked r p.Name p.Attrs).getD []) := by
    unfold looked mkR
    dsimp only
    by_cases k : r.Key = []
    · rw [bifF (by simp [k]), if_pos k]; rfl
    · rw [bifT (by simp [k]), if_neg k, find_eq (by omega), bind_some, getA_idx]
      cases h : p.Attrs.findIdx? fun a => decide (a.Key = r.Key) with
      | none => rw [show idxI none = -1 from rfl, bifFd (by omega)]; rfl
      | some i =>
        have hi := (List.findIdx?_eq_some_iff_getElem.1 h).1
        rw [show idxI (some i) = (i : Int) from rfl, bifTd (by omega), idx_nat hi, bind_some, Option.bind_some, List.getElem?_eq_getElem hi]; rfl
  rw [e, bind_some]
  unfold holdsE
  exact match_mG g (looked_len sh)
theorem woA_len (k : List UInt8) : (woA l k).length ≤ l.length := List.length_filter_le _ _
theorem turn_eq (g : GoodR r) (sh : Sh p.Name p.Attrs) (hl : p.Attrs.length ≤ 900) :
    relabel_rule_turn (mkR r) p = some (match turnE r p.Name p.Attrs with | none => (false, p) | some l => (true, { p with Attrs := l })) := by
  unfold relabel_rule_turn turnE
  rw [holds_eq g sh (by omega), bind_some, lett_eq]
  have eR : (mkR r).Rule = r := rfl
  rw [eR]
  by_cases k1 : r.Kind = 1
  · rw [bifTd k1, if_pos k1]
    cases holdsE r p.Name p.Attrs <;> rfl
  rw [bifFd k1, if_neg k1, lett_eq]
  by_cases k2 : r.Kind = 2
  · rw [bifTd k2, if_pos k2, lett_eq]
    cases holdsE r p.Name p.Attrs <;> rfl
  rw [bifFd k2, if_neg k2, lett_eq]
  by_cases k3 : r.Kind = 3
  · rw [bifTd k3, if_pos k3]
    cases holdsE r p.Name p.Attrs with
    | false => rfl
    | true =>
      rw [cond_true, without_eq (by omega), bind_some, bind_some]
      dsimp only
      have := woA_len (l := p.Attrs) r.To
      rw [app_ok (by simp; omega), bind_some]; rfl
  rw [bifFd k3, if_neg k3, lett_eq]
  by_cases k4 : r.Kind = 4
  · rw [bifTd k4, if_pos k4, find_eq (by omega), bind_some, getA_idx]
    cases h : p.Attrs.findIdx? fun a => decide (a.Key = r.Key) with
    | none => rw [show idxI none = -1 from rfl, bifF (by simp)]; rfl
    | some i =>
      have hi := (List.findIdx?_eq_some_iff_getElem.1 h).1
      rw [show idxI (some i) = (i : Int) from rfl, Option.bind_some, List.getElem?_eq_getElem hi]
      dsimp only [Option.map_some]
      cases holdsE r p.Name p.Attrs with
      | false => rw [bifF (by simp)]; rfl
      | true =>
        have h1 := woA_len (l := p.Attrs) r.Key
        have h2 := woA_len (l := woA p.Attrs r.Key) r.To
        rw [bifT (by simp), idx_nat hi, bind_some, without_eq (by omega), bind_some, without_eq (by omega), bind_some, bind_some]
        dsimp only
        rw [bind_some]
        dsimp only
        rw [app_ok (by simp; omega), bind_some]; rfl
  rw [bifFd k4, if_neg k4, lett_eq]
  have k5 : r.Kind = 5 := by have := g.k; omega
  rw [bifTd k5, cloneP_eq (by omega), bind_some]
  have := del_eq (fi := relabel_rule_turn_lp1 (mkR r) p.Attrs) (f := relabel_rule_turn_lp2 (mkR r)) (l := p.Attrs) (fun a => mG r a.Key) (by omega) ?_ ?_ ?_
  · rw [this, bind_some]
  · refine find_loop (l := p.Attrs) (fun a => mG r a.Key) (by omega) (fun i h => ?_) ?_
    · have := match_mG g (sh.kv _ (List.getElem_mem h)).1
      unfold relabel_rule_turn_lp1
      rw [bifTd (by omega), idx_nat h, bind_some, this, bind_some]
      cases hm : mG r p.Attrs[i].Key <;> simp [hm]
      rfl
    · unfold relabel_rule_turn_lp1
      rw [bifFd (by omega)]
  · intro s i j h hij hn hm
    have hg := match_mG g (sh.kv _ hm).1
    unfold relabel_rule_turn_lp2
    dsimp only
    rw [bifTd (by omega), idx_nat h, bind_some, hg, bind_some]
    cases mG r s[j].Key with
    | true =>
      rw [bifF (c := !true) rfl, bind_some]
      dsimp only
      rw [lett_eq, w64_succ (by omega), if_pos rfl]
    | false =>
      rw [bifT (c := !false) rfl, idx_nat (by omega), bind_some, setI_nat (by omega), bind_some, lett_eq, bind_some]
      dsimp only
      rw [lett_eq, w64_succ (by omega), w64_succ (by omega), if_neg (by simp)]
  · intro s i hn
    unfold relabel_rule_turn_lp2
    dsimp only
    rw [bifFd (by omega)]
end
end Go.Lg
namespace Go.Lg
attribute [local irreducible] w64 toU64 toU8 shlU shrU shlB shrB spanS
/-- attributes that are right but for how many they are -/
structure GA (l : List api_Pair) : Prop where
  g : ∀ a ∈ l, nameOk a.Key = true ∧ valueOk a.Val = true
  u : (l.map (·.Key)).Nodup
theorem nameOk_le {s : List UInt8} (h : nameOk s = true) : s.length ≤ 32 ∧ s ≠ [] := by
  unfold nameOk at h
  simp only [Bool.and_eq_true, decide_eq_true_eq] at h
  exact ⟨h.1.1.2, fun e => by rw [e] at h; simp at h⟩
theorem valueOk_le {s : List UInt8} (h : valueOk s = true) : s.length ≤ 32 := by
  unfold valueOk at h
  simp only [Bool.and_eq_true, decide_eq_true_eq] at h
  exact h.1.2
section
variable {r : api_Rule} {n : List UInt8} {l l' : List api_Pair} {p : api_Point}
theorem GA.sh (h : GA l) (hn : n.length ≤ 1000) : Sh n l := ⟨hn, fun a ha => by
  have h1 := nameOk_le (h.g a ha).1
  have h2 := valueOk_le (h.g a ha).2
  omega⟩
theorem GA.filter (h : GA l) (d : api_Pair → Bool) : GA (l.filter d) :=
  ⟨fun a ha => h.g a (List.mem_filter.1 ha).1, List.Sublist.nodup (List.Sublist.map _ List.filter_sublist) h.u⟩
theorem GA.put (h : GA l) {k v : List UInt8} (hk : nameOk k = true) (hv : valueOk v = true) : GA (woA l k ++ [⟨k, v⟩]) := by
  have h1 := h.filter (fun a => !decide (a.Key = k))
  refine ⟨fun a ha => ?_, ?_⟩
  · rcases List.mem_append.1 ha with ha | ha
    · exact h1.g a ha
    · rw [List.mem_singleton] at ha; subst ha; exact ⟨hk, hv⟩
  · rw [List.map_append, List.nodup_append]
    refine ⟨h1.u, by simp, ?_⟩
    intro a ha b hb
    obtain ⟨x, hx, rfl⟩ := List.mem_map.1 ha
    simp only [List.map_cons, List.map_nil, List.mem_singleton] at hb
    subst hb
    have := (List.mem_filter.1 hx).2
    simpa using this
theorem GA.turn (h : GA l) (g : GoodR r) (ht : turnE r n l = some l') : GA l' ∧ l'.length ≤ l.length + 1 := by
  unfold turnE at ht
  split at ht
  · split at ht
    · cases ht; exact ⟨h, by omega⟩
    · cases ht
  · split at ht
    · split at ht
      · cases ht
      · cases ht; exact ⟨h, by omega⟩
    · split at ht
      · rename_i k3
        split at ht
        · cases ht
          have := woA_len (l := l) r.To
          exact ⟨h.put (g.k3 k3).1 (g.k3 k3).2, by simp; omega⟩
        · cases ht; exact ⟨h, by omega⟩
      · split at ht
        · rename_i k4
          split at ht
          · rename_i v hv
            split at ht
            · cases ht
              have h1 := woA_len (l := l) r.Key
              have h2 := woA_len (l := woA l r.Key) r.To
              obtain ⟨a, ha, _, hav⟩ := getA_mem hv
              refine ⟨GA.put (h.filter _) (g.k4 k4).2 (by rw [← hav]; exact (h.g a ha).2), by simp; omega⟩
            · cases ht; exact ⟨h, by omega⟩
          · cases ht; exact ⟨h, by omega⟩
        · cases ht
          exact ⟨h.filter _, by have := List.length_filter_le (fun a => !mG r a.Key) l; omega⟩
end
/-- rules one behind the other: the place of that by which the point is let go, or the attributes -/
def thruE (n : List UInt8) : List api_Rule → Nat → List api_Pair → Nat ⊕ List api_Pair
  | [], _, l => .inr l
  | r :: rs, i, l => match turnE r n l with
    | none => .inl i
    | some l' => thruE n rs (i + 1) l'
abbrev St17 := List UInt8 × List api_Pair × Int × Int × Bool × Int × Int × Int × UInt64 × UInt64 × Int × UInt64 × Int × List UInt64 × Int × List UInt64 × Int
abbrev st17 (q : api_Point) : St17 := (q.Name, q.Attrs, q.Kind, q.Temp, q.Mono, q.Start, q.Time, q.Int_, q.Re, q.Im, q.Hist.Scale, q.Hist.Zero, q.Hist.Pos.Offset, q.Hist.Pos.Counts, q.Hist.Neg.Offset, q.Hist.Neg.Counts, q.Flags)
abbrev st18 (q : api_Point) (i : Int) := (q.Name, q.Attrs, q.Kind, q.Temp, q.Mono, q.Start, q.Time, q.Int_, q.Re, q.Im, q.Hist.Scale, q.Hist.Zero, q.Hist.Pos.Offset, q.Hist.Pos.Counts, q.Hist.Neg.Offset, q.Hist.Neg.Counts, q.Flags, i)
def thruF (p q' : api_Point) : Nat ⊕ List api_Pair → Flow St17 (Int × api_Point)
  | .inl k => .out ((k : Int), q')
  | .inr l => .go (st17 { p with Attrs := l })
theorem run_loop {rs : List api_Rule} (gr : ∀ r ∈ rs, GoodR r) (hr : rs.length ≤ 100) : ∀ (m i : Nat) (q : api_Point), i + m = rs.length → GA q.Attrs → q.Name.length ≤ 1000 → q.Attrs.length ≤ 200 + i →
    ∃ q', loop (relabel_Rules_run_lp1 ⟨rs.map mkR⟩) (st18 q (i : Int)) = some (thruF q q' (thruE q.Name (rs.drop i) i q.Attrs)) := by
  intro m
  induction m with
  | zero =>
    intro i q hi _ _ _
    refine ⟨q, ?_⟩
    rw [List.drop_eq_nil_of_le (by omega)]
    refine loop_brk ?_
    unfold relabel_Rules_run_lp1
    dsimp only
    rw [bifFd (by rw [List.length_map]; omega)]
  | succ m ih =>
    intro i q hi hg hn hl
    have hlt : i < rs.length := by omega
    have hgr := gr _ (List.getElem_mem hlt)
    have ht := turn_eq hgr (hg.sh hn) (p := q) (by omega)
    rw [List.drop_eq_getElem_cons hlt]
    unfold thruE
    have hx : idx (rs.map mkR) (i : Int) = some (mkR rs[i]) := by rw [idx_nat (by rw [List.length_map]; exact hlt), List.getElem_map]
    cases hE : turnE rs[i] q.Name q.Attrs with
    | none =>
      rw [hE] at ht
      refine ⟨q, loop_out ?_⟩
      unfold relabel_Rules_run_lp1
      dsimp only
      rw [bifTd (by rw [List.length_map]; omega), hx, bind_some]
      show (relabel_rule_turn (mkR rs[i]) q).bind _ = _
      rw [ht, bind_some]; rfl
    | some l' =>
      rw [hE] at ht
      obtain ⟨g1, g2⟩ := hg.turn hgr hE
      obtain ⟨q', hq⟩ := ih (i + 1) { q with Attrs := l' } (by omega) g1 hn (by dsimp only; omega)
      refine ⟨q', ?_⟩
      have hst : relabel_Rules_run_lp1 ⟨rs.map mkR⟩ (st18 q (i : Int)) = some (.next (st18 { q with Attrs := l' } ((i + 1 : Nat) : Int))) := by
        unfold relabel_Rules_run_lp1
        dsimp only
        rw [bifTd (by rw [List.length_map]; omega), hx, bind_some]
        show (relabel_rule_turn (mkR rs[i]) q).bind _ = _
        rw [ht, bind_some]
        dsimp only
        rw [bifF (c := !true) rfl, w64_succ (by omega)]
      rw [loop_next hst, hq]
      dsimp only
      cases thruE q.Name (rs.drop (i + 1)) (i + 1) l' <;> rfl
def runO (p q' : api_Point) : Nat ⊕ List api_Pair → Int × api_Point
  | .inl k => ((k : Int), q')
  | .inr l => (-1, { p with Attrs := l })
theorem run_eq {rs : List api_Rule} (gr : ∀ r ∈ rs, GoodR r) (hr : rs.length ≤ 100) {p : api_Point} (hg : GA p.Attrs) (hn : p.Name.length ≤ 1000) (hl : p.Attrs.length ≤ 200) :
    ∃ q', relabel_Rules_run ⟨rs.map mkR⟩ p = some (runO p q' (thruE p.Name rs 0 p.Attrs)) := by
  obtain ⟨q', h⟩ := run_loop gr hr rs.length 0 p (by omega) hg hn (by omega)
  refine ⟨q', ?_⟩
  unfold relabel_Rules_run
  rw [List.drop_zero] at h
  have h' : loop (relabel_Rules_run_lp1 ⟨rs.map mkR⟩) (st18 p 0) = _ := h
  rw [h']
  cases thruE p.Name rs 0 p.Attrs <;> rfl
theorem thruE_ga {n : List UInt8} {rs : List api_Rule} : ∀ {i : Nat} {l l' : List api_Pair}, (∀ r ∈ rs, GoodR r) → GA l → thruE n rs i l = .inr l' → GA l' ∧ l'.length ≤ l.length + rs.length := by
  induction rs with
  | nil => intro i l l' _ h ht; cases ht; exact ⟨h, by simp⟩
  | cons r rs ih =>
    intro i l l' gr h ht
    unfold thruE at ht
    split at ht
    · cases ht
    · rename_i l1 h1
      obtain ⟨g1, g2⟩ := h.turn (gr r (by simp)) h1
      obtain ⟨g3, g4⟩ := ih (fun x hx => gr x (by simp [hx])) g1 ht
      exact ⟨g3, by rw [List.length_cons]; omega⟩
/-! ### the document's -/
end Go.Lg
namespace Go.Lg
attribute [local irreducible] w64 toU64 toU8 shlU shrU shlB shrB spanS
theorem ga_of {n : List UInt8} {l : List api_Pair} (h : labelE n l = 0) : GA l := by
  unfold labelE at h
  split at h
  · cases h
  · split at h
    · cases h
    · have h3 := (firstE_none _ _).1 (firstE_pair h)
      have key : ∀ (j : Nat) (hj : j < l.length), (nameOk l[j].Key = true ∧ valueOk l[j].Val = true) ∧ ∀ k (hk : k < j), (l[k]'(by omega)).Key ≠ l[j].Key := by
        intro j hj
        have h4 := h3 j (Nat.zero_le _) (by omega)
        unfold pairE at h4
        have hg : ∀ k (hk : k < l.length), l.getD k P0 = l[k] := fun k hk => by simp [List.getD, hk]
        rw [hg j hj] at h4
        split at h4
        · rename_i h5
          split at h4
          · cases h4
          · rename_i h6
            simp only [Bool.and_eq_true] at h5
            refine ⟨h5, fun k hk e => h6 ?_⟩
            unfold dupB
            rw [decide_eq_true_eq]
            exact ⟨k, hk, by rw [hg k (by omega), hg j hj]; exact e⟩
        · cases h4
      refine ⟨fun a ha => ?_, ?_⟩
      · obtain ⟨j, hj, rfl⟩ := List.getElem_of_mem ha
        exact (key j hj).1
      · unfold List.Nodup
        rw [List.pairwise_iff_getElem]
        intro i j hi hj hij
        rw [List.length_map] at hi hj
        rw [List.getElem_map, List.getElem_map]
        exact (key j hj).2 i hij
theorem labelE_ga {n : List UInt8} {l : List api_Pair} (h : GA l) : labelE n l = if nameOk n = false then 3 else if 4 < l.length then 4 else 0 := by
  unfold labelE
  split
  · rfl
  · split
    · rfl
    · have : firstE (pairE l) l.length 0 = none := (firstE_none _ _).2 fun j _ hj => by
        have hj' : j < l.length := by omega
        have hg : ∀ k (hk : k < l.length), l.getD k P0 = l[k] := fun k hk => by simp [List.getD, hk]
        unfold pairE
        have h1 := h.g _ (List.getElem_mem hj')
        rw [hg j hj', h1.1, h1.2, Bool.and_self, if_pos rfl, if_neg]
        unfold dupB
        rw [decide_eq_true_eq]
        rintro ⟨k, hk, e⟩
        rw [hg k (by omega), hg j hj'] at e
        have hu := h.u
        unfold List.Nodup at hu
        rw [List.pairwise_iff_getElem] at hu
        exact hu k j (by rw [List.length_map]; omega) (by rw [List.length_map]; omega) hk (by rw [List.getElem_map, List.getElem_map]; exact e)
      rw [this]; rfl
/-- what Apply answers -/
def applyE (rs : List api_Rule) (p : api_Point) : api_Point × Bool × Int :=
  if chkE p ≠ 0 then (Pt0, false, chkE p) else match thruE p.Name rs 0 p.Attrs with
  | .inl _ => (Pt0, false, 0)
  | .inr l => if chkE { p with Attrs := l } ≠ 0 then (Pt0, false, chkE { p with Attrs := l }) else ({ p with Attrs := srt l }, true, 0)
def stopE (rs : List api_Rule) (p : api_Point) : Int :=
  if chkE p ≠ 0 then -1 else match thruE p.Name rs 0 p.Attrs with
  | .inl k => (k : Int)
  | .inr _ => -1
theorem chk_ga {p : api_Point} (h : chkE p = 0) : GA p.Attrs ∧ p.Name.length ≤ 32 ∧ p.Attrs.length ≤ 4 :=
  have h1 := chk_label h
  have h2 := label_lens h1
  ⟨ga_of h1, h2.1, h2.2.1⟩
section
variable {rs : List api_Rule} (gr : ∀ r ∈ rs, GoodR r) (hr : rs.length ≤ 100) {p : api_Point} (o : OkH p.Hist)
include gr hr o
theorem apply_eq : relabel_Rules_Apply ⟨rs.map mkR⟩ p = some (applyE rs p) := by
  unfold relabel_Rules_Apply applyE
  rw [chk_eq o, bind_some]
  by_cases hc : chkE p = 0
  case neg => rw [bifT (by simp [hc]), if_pos hc]; rfl
  obtain ⟨g, hn, hl⟩ := chk_ga hc
  rw [bifF (by simp [hc]), if_neg (fun e => e hc), clone_p (by omega) o, bind_some]
  obtain ⟨q', hq⟩ := run_eq gr hr g (by omega) (by omega)
  rw [hq, bind_some]
  cases ht : thruE p.Name rs 0 p.Attrs with
  | inl k => dsimp only [runO]; rw [bifTd (by omega)]; rfl
  | inr l =>
    dsimp only [runO]
    rw [bifFd (by omega), chk_eq (p := { p with Attrs := l }) o, bind_some]
    by_cases hc2 : chkE { p with Attrs := l } = 0
    case neg => rw [bifT (by simp [hc2]), if_pos hc2]; rfl
    obtain ⟨g2, hn2, hl2⟩ := chk_ga hc2
    rw [bifF (by simp [hc2]), if_neg (fun e => e hc2), sorted_eq l (by dsimp only at hl2; omega), bind_some]
theorem stop_eq : relabel_Rules_Stop ⟨rs.map mkR⟩ p = some (stopE rs p) := by
  unfold relabel_Rules_Stop stopE
  rw [chk_eq o, bind_some]
  by_cases hc : chkE p = 0
  case neg => rw [bifT (by simp [hc]), if_pos hc]
  obtain ⟨g, hn, hl⟩ := chk_ga hc
  rw [bifF (by simp [hc]), if_neg (fun e => e hc), clone_p (by omega) o, bind_some]
  obtain ⟨q', hq⟩ := run_eq gr hr g (by omega) (by omega)
  rw [hq, bind_some]
  cases ht : thruE p.Name rs 0 p.Attrs <;> rfl
omit gr hr in
theorem apply_pok (i : I64 p.Int_) : Pok (applyE rs p).1 := by
  unfold applyE
  split
  · exact Pt0_pok
  · split
    · exact Pt0_pok
    · split
      · exact Pt0_pok
      · rename_i l _ hc
        have hl := (chk_ga (Classical.not_not.1 hc)).2.2
        exact ⟨o, i, by rw [srt_length]; dsimp only at hl; omega⟩
end
/-! ### what the document tells -/
def R1 : api_Rule := ⟨2, [], [116, 109, 112, 46, 42], [], []⟩
def R2 : api_Rule := ⟨3, [], [42], [101, 110, 118], [112, 114, 111, 100]⟩
def R3 : api_Rule := ⟨1, [], [42], [], []⟩
def R4 : api_Rule := ⟨1, [], [91], [], []⟩
theorem comp_r1 : comp [116, 109, 112, 46, 42] = .inr [byteP 116, byteP 109, byteP 112, byteP 46, ⟨1, nilS, false, 0⟩] := rfl
theorem comp_r2 : comp [42] = .inr [⟨1, nilS, false, 0⟩] := rfl
theorem comp_r4 : comp [91] = .inl (0, 2) := rfl
theorem rule_r1 : ruleE R1 = 0 := by unfold ruleE R1; rw [if_neg (by decide), comp_r1]; rfl
theorem rule_r2 : ruleE R2 = 0 := by unfold ruleE R2; rw [if_neg (by decide), comp_r2]; decide
theorem rule_r3 : ruleE R3 = 0 := by unfold ruleE R3; rw [if_neg (by decide), comp_r2]; rfl
theorem rule_r4 : ruleE R4 = 2 := by unfold ruleE R4; rw [if_neg (by decide), comp_r4]
theorem comp_12 : compR [R1, R2] = (some ⟨[R1, R2].map mkR⟩, 0, 0) := by
  unfold compR
  rw [if_neg (by decide), badR_of (fun r hr => by
    rcases List.mem_cons.1 hr with rfl | hr
    · exact rule_r1
    · rw [List.mem_singleton] at hr; subst hr; exact rule_r2)]
theorem comp_34 : compR [R3, R4] = (none, 1, 2) := by
  unfold compR
  rw [if_neg (by decide)]
  have : badR [R3, R4] 0 = some (1, 2) := by
    unfold badR
    rw [if_neg (fun e => e rule_r3)]
    unfold badR
    rw [rule_r4, if_pos (by decide)]
  rw [this]; rfl
def gP (n : List UInt8) (l : List api_Pair) : api_Point := ⟨n, l, 3, 0, false, 0, 0, 0, 0, 0, ⟨0, 0, ⟨0, []⟩, ⟨0, []⟩⟩, 0⟩
theorem hold1 (n : List UInt8) (l : List api_Pair) : holdsE R1 n l = mt ([byteP 116, byteP 109, byteP 112, byteP 46, ⟨1, nilS, false, 0⟩].map pcOf) n := by
  unfold holdsE mG looked R1
  dsimp only
  rw [comp_r1, if_pos rfl]; rfl
theorem hold2 (n : List UInt8) (l : List api_Pair) : holdsE R2 n l = true := by
  unfold holdsE mG looked R2
  dsimp only
  rw [comp_r2, if_pos rfl]
  exact mt_rest _
theorem gP_ok (n : List UInt8) (l : List api_Pair) : OkH (gP n l).Hist := H0_good.ok
theorem awake33 : law33_awake = some true := by
  have gr : ∀ r ∈ [R1, R2], GoodR r := fun r hr => goodR (by
    rcases List.mem_cons.1 hr with rfl | hr
    · exact rule_r1
    · rw [List.mem_singleton] at hr; subst hr; exact rule_r2)
  have c1 : chkE (gP [97] []) = 0 := by decide +kernel
  have c2 : chkE (gP [97] [⟨[101, 110, 118], [112, 114, 111, 100]⟩]) = 0 := by decide +kernel
  have c3 : chkE (gP [116, 109, 112, 46, 97] []) = 0 := by decide +kernel
  have m1 : holdsE R1 [97] [] = false := by
    rw [hold1]
    simp [pcOf, byteP, mt_oc, inS_byte]
  have m2 : holdsE R1 [116, 109, 112, 46, 97] [] = true := by
    rw [hold1]
    simp [pcOf, byteP, mt_oc, mt_sc, mt_sn, mt_nil, inS_byte]
  have t1 : thruE [97] [R1, R2] 0 [] = .inr [⟨[101, 110, 118], [112, 114, 111, 100]⟩] := by
    have e1 : turnE R1 [97] [] = some [] := by unfold turnE; rw [m1]; rfl
    have e2 : turnE R2 [97] [] = some [⟨[101, 110, 118], [112, 114, 111, 100]⟩] := by unfold turnE; rw [hold2]; rfl
    unfold thruE
    rw [e1]
    dsimp only
    unfold thruE
    rw [e2]
    rfl
  have t2 : thruE [116, 109, 112, 46, 97] [R1, R2] 0 [] = .inl 0 := by
    have e1 : turnE R1 [116, 109, 112, 46, 97] [] = none := by unfold turnE; rw [m2]; rfl
    unfold thruE
    rw [e1]
  have a1 : applyE [R1, R2] (gP [97] []) = (gP [97] [⟨[101, 110, 118], [112, 114, 111, 100]⟩], true, 0) := by
    unfold applyE
    rw [if_neg (fun e => e c1)]
    have e : (gP [97] []).Name = [97] ∧ (gP [97] []).Attrs = [] := ⟨rfl, rfl⟩
    rw [e.1, e.2, t1]
    dsimp only
    rw [if_neg]
    · rfl
    · exact fun e => e c2
  have a2 : applyE [R1, R2] (gP [116, 109, 112, 46, 97] []) = (Pt0, false, 0) := by
    unfold applyE
    rw [if_neg (fun e => e c3)]
    have e : (gP [116, 109, 112, 46, 97] []).Name = [116, 109, 112, 46, 97] ∧ (gP [116, 109, 112, 46, 97] []).Attrs = [] := ⟨rfl, rfl⟩
    rw [e.1, e.2, t2]
  have s2 : stopE [R1, R2] (gP [116, 109, 112, 46, 97] []) = 0 := by
    unfold stopE
    rw [if_neg (fun e => e c3)]
    have e : (gP [116, 109, 112, 46, 97] []).Name = [116, 109, 112, 46, 97] ∧ (gP [116, 109, 112, 46, 97] []).Attrs = [] := ⟨rfl, rfl⟩
    rw [e.1, e.2, t2]; rfl
  have q1 := apply_eq gr (by decide) (gP_ok [97] [])
  have q2 := apply_eq gr (by decide) (gP_ok [116, 109, 112, 46, 97] [])
  have q3 := stop_eq gr (by decide) (gP_ok [116, 109, 112, 46, 97] [])
  rw [a1] at q1
  rw [a2] at q2
  rw [s2] at q3
  unfold gP at q1 q2 q3
  have e1 : relabel_Compile [(api_Rule.mk 2 [] [116, 109, 112, 46, 42] [] []), (api_Rule.mk 3 [] [42] [101, 110, 118] [112, 114, 111, 100])] = _ := compR_eq [R1, R2]
  have e2 : relabel_Compile [(api_Rule.mk 1 [] [42] [] []), (api_Rule.mk 1 [] [91] [] [])] = _ := compR_eq [R3, R4]
  rw [comp_12] at e1
  rw [comp_34] at e2
  unfold law33_awake
  rw [e1, e2, bind_some]
  dsimp only
  rw [bind_some]
  dsimp only
  rw [bind_some, bifF (by simp)]
  unfold relabel_Rules_Len
  rw [lett_eq, bind_some, bind_some, bifF (by simp), q1, bind_some]
  dsimp only
  rw [q2, bind_some]
  dsimp only
  rw [bifT (by simp), idx_0 (by simp), bind_some, bind_some, bifT (by simp), q3, bind_some, bind_some]
  rfl
end Go.Lg
namespace Go.Lg
attribute [local irreducible] w64 toU64 toU8 shlU shrU shlB shrB spanS
theorem sl_asymm : ∀ {a b : List UInt8}, sLess a b = true → sLess b a = false
  | [], [], h => by simp [sLess] at h
  | [], _ :: _, _ => by simp [sLess]
  | _ :: _, [], h => by simp [sLess] at h
  | x :: a, y :: b, h => by
    simp only [sLess, Bool.or_eq_true, Bool.and_eq_true, decide_eq_true_eq, UInt8.lt_iff_toNat_lt] at h
    simp only [sLess, Bool.or_eq_false_iff, Bool.and_eq_false_iff, decide_eq_false_iff_not, UInt8.lt_iff_toNat_lt]
    rcases h with h | ⟨rfl, h⟩
    · exact ⟨by omega, .inl fun e => by rw [e] at h; omega⟩
    · exact ⟨by omega, .inr (sl_asymm h)⟩
theorem sl_trans : ∀ {a b c : List UInt8}, sLess a b = true → sLess b c = true → sLess a c = true
  | _, [], _, h, _ => by simp [sLess] at h
  | _, _ :: _, [], _, h => by simp [sLess] at h
  | [], _ :: _, _ :: _, _, _ => by simp [sLess]
  | x :: a, y :: b, z :: c, h, k => by
    simp only [sLess, Bool.or_eq_true, Bool.and_eq_true, decide_eq_true_eq, UInt8.lt_iff_toNat_lt] at *
    rcases h with h | ⟨rfl, h⟩
    · rcases k with k | ⟨rfl, k⟩
      · left; omega
      · left; exact h
    · rcases k with k | ⟨rfl, k⟩
      · left; exact k
      · right; exact ⟨rfl, sl_trans h k⟩
theorem sl_tri : ∀ {a b : List UInt8}, sLess a b = false → sLess b a = false → a = b
  | [], [], _, _ => rfl
  | [], _ :: _, h, _ => by simp [sLess] at h
  | _ :: _, [], _, h => by simp [sLess] at h
  | x :: a, y :: b, h, k => by
    simp only [sLess, Bool.or_eq_false_iff, Bool.and_eq_false_iff, decide_eq_false_iff_not, UInt8.lt_iff_toNat_lt] at h k
    have e : x = y := UInt8.toNat_inj.1 (by omega)
    subst e
    have h2 : sLess a b = false := h.2.resolve_left fun f => f rfl
    have k2 : sLess b a = false := k.2.resolve_left fun f => f rfl
    rw [sl_tri h2 k2]
/-- by the keys, each one but once -/
abbrev Srt (l : List api_Pair) : Prop := l.Pairwise fun a b => sLess a.Key b.Key = true
theorem insK_perm (out : List api_Pair) (x : api_Pair) : List.Perm (insK out x) (x :: out) := by
  unfold insK
  refine List.perm_middle.trans ?_
  rw [List.take_append_drop]
theorem foldK_perm : ∀ (l out : List api_Pair), List.Perm (l.foldl insK out) (l ++ out)
  | [], out => List.Perm.refl _
  | x :: l, out => by
    rw [List.foldl_cons]
    refine (foldK_perm l (insK out x)).trans ?_
    refine ((insK_perm out x).append_left l).trans ?_
    exact List.perm_middle
theorem srt_perm (l : List api_Pair) : List.Perm (srt l) l := by
  have := foldK_perm l []
  rwa [List.append_nil] at this
theorem posK_spec {out : List api_Pair} {x : api_Pair} : ∀ {k : Nat}, k ≤ out.length → (∀ i, posK out x k ≤ i → i < k → sLess x.Key (out.getD i P0).Key = true) ∧ (0 < posK out x k → sLess x.Key (out.getD (posK out x k - 1) P0).Key = false)
  | 0, _ => ⟨fun i _ h => by omega, fun h => by simp [posK] at h⟩
  | k + 1, hk => by
    unfold posK
    by_cases h : sLess x.Key (out.getD k P0).Key = true
    · rw [if_pos h]
      have ih := posK_spec (out := out) (x := x) (k := k) (by omega)
      refine ⟨fun i h1 h2 => ?_, ih.2⟩
      by_cases e : i = k
      · subst e; exact h
      · exact ih.1 i h1 (by omega)
    · rw [if_neg h]
      exact ⟨fun i h1 h2 => by omega, fun _ => by rw [Nat.add_sub_cancel]; simpa using h⟩
theorem insK_srt {out : List api_Pair} {x : api_Pair} (h : Srt out) (hx : ∀ a ∈ out, a.Key ≠ x.Key) : Srt (insK out x) := by
  obtain ⟨h1, h2⟩ := posK_spec (out := out) (x := x) (Nat.le_refl out.length)
  have hle := posK_le out x out.length
  unfold insK
  generalize posK out x out.length = q at *
  have hg : ∀ i (hi : i < out.length), out.getD i P0 = out[i] := fun i hi => by simp [List.getD, hi]
  have hp := List.pairwise_iff_getElem.1 h
  have hbig : ∀ b ∈ out.drop q, sLess x.Key b.Key = true := by
    intro b hb
    obtain ⟨i, hi, rfl⟩ := List.getElem_of_mem hb
    rw [List.length_drop] at hi
    rw [List.getElem_drop, ← hg (q + i) (by omega)]
    exact h1 (q + i) (by omega) (by omega)
  have hsm : ∀ a ∈ out.take q, sLess a.Key x.Key = true := by
    intro a ha
    obtain ⟨i, hi, rfl⟩ := List.getElem_of_mem ha
    rw [List.length_take] at hi
    rw [List.getElem_take]
    have h3 := h2 (by omega)
    rw [hg (q - 1) (by omega)] at h3
    have h4 : sLess (out[q - 1]'(by omega)).Key x.Key = true := by
      by_cases e : sLess (out[q - 1]'(by omega)).Key x.Key = true
      · exact e
      · exact absurd (sl_tri (by simpa using e) h3) (hx _ (List.getElem_mem _))
    by_cases e : i = q - 1
    · subst e; exact h4
    · exact sl_trans (hp i (q - 1) (by omega) (by omega) (by omega)) h4
  have hs : Srt (out.take q ++ out.drop q) := by rw [List.take_append_drop]; exact h
  rw [Srt, List.pairwise_append] at hs
  rw [Srt, List.pairwise_append]
  refine ⟨hs.1, List.pairwise_cons.2 ⟨hbig, hs.2.1⟩, fun a ha b hb => ?_⟩
  rcases List.mem_cons.1 hb with rfl | hb
  · exact hsm a ha
  · exact hs.2.2 a ha b hb
theorem foldK_srt : ∀ (l out : List api_Pair), Srt out → ((l ++ out).map (·.Key)).Nodup → Srt (l.foldl insK out)
  | [], out, h, _ => h
  | x :: l, out, h, hu => by
    rw [List.foldl_cons]
    have hu' := hu
    rw [List.cons_append, List.map_cons, List.nodup_cons] at hu'
    refine foldK_srt l (insK out x) (insK_srt h fun a ha e => hu'.1 ?_) ?_
    · rw [← e]; exact List.mem_map_of_mem (List.mem_append_right _ ha)
    · have hp : List.Perm (l ++ insK out x) (x :: l ++ out) := ((insK_perm out x).append_left l).trans List.perm_middle
      exact (hp.map _).nodup_iff.2 hu
theorem srt_srt {l : List api_Pair} (h : (l.map (·.Key)).Nodup) : Srt (srt l) := foldK_srt l [] List.Pairwise.nil (by rwa [List.append_nil])
theorem srt_uniq {l m : List api_Pair} (hl : Srt l) (hm : Srt m) (h : List.Perm l m) : l = m := by
  refine List.Perm.eq_of_pairwise (le := fun a b => sLess a.Key b.Key = true) (fun a b _ _ h1 h2 => ?_) hl hm h
  rw [sl_asymm h1] at h2; cases h2
theorem srt_eq {l m : List api_Pair} (hl : (l.map (·.Key)).Nodup) (h : List.Perm l m) : srt l = srt m :=
  srt_uniq (srt_srt hl) (srt_srt ((h.map _).nodup_iff.1 hl)) ((srt_perm l).trans (h.trans (srt_perm m).symm))
theorem GA.perm {l m : List api_Pair} (h : GA l) (p : List.Perm l m) : GA m :=
  ⟨fun a ha => h.g a (p.mem_iff.2 ha), (p.map _).nodup_iff.1 h.u⟩
/-! ### attributes in another order -/
theorem key_inj {l : List api_Pair} (h : (l.map (·.Key)).Nodup) {a b : api_Pair} (ha : a ∈ l) (hb : b ∈ l) (e : a.Key = b.Key) : a = b := by
  obtain ⟨i, hi, rfl⟩ := List.getElem_of_mem ha
  obtain ⟨j, hj, rfl⟩ := List.getElem_of_mem hb
  unfold List.Nodup at h
  rw [List.pairwise_iff_getElem] at h
  rcases Nat.lt_trichotomy i j with hij | rfl | hij
  · exact absurd (by rw [List.getElem_map, List.getElem_map]; exact e) (h i j (by rw [List.length_map]; exact hi) (by rw [List.length_map]; exact hj) hij)
  · rfl
  · exact absurd (by rw [List.getElem_map, List.getElem_map]; exact e.symm) (h j i (by rw [List.length_map]; exact hj) (by rw [List.length_map]; exact hi) hij)
theorem getA_iff {l : List api_Pair} (h : (l.map (·.Key)).Nodup) {k v : List UInt8} : getA l k = some v ↔ ∃ a ∈ l, a.Key = k ∧ a.Val = v := by
  refine ⟨getA_mem, ?_⟩
  rintro ⟨a, ha, hk, hv⟩
  unfold getA
  cases hf : l.find? fun a => decide (a.Key = k) with
  | none =>
    rw [List.find?_eq_none] at hf
    have := hf a ha
    simp [hk] at this
  | some b =>
    have h1 := List.find?_some hf
    have h2 := List.mem_of_find?_eq_some hf
    have e := key_inj h ha h2 (by rw [hk]; simpa using (by simpa using h1 : b.Key = k).symm)
    rw [← e, Option.map_some, hv]
theorem getA_perm {l m : List api_Pair} (h : (l.map (·.Key)).Nodup) (p : List.Perm l m) (k : List UInt8) : getA l k = getA m k := by
  apply Option.ext
  intro v
  rw [getA_iff h, getA_iff ((p.map _).nodup_iff.1 h)]
  exact ⟨fun ⟨a, ha, q⟩ => ⟨a, p.mem_iff.1 ha, q⟩, fun ⟨a, ha, q⟩ => ⟨a, p.mem_iff.2 ha, q⟩⟩
/-- both let go, or both with the same attributes -/
def SameO : Option (List api_Pair) → Option (List api_Pair) → Prop
  | none, none => True
  | some l, some m => List.Perm l m
  | _, _ => False
theorem turnE_perm {r : api_Rule} {n : List UInt8} {l m : List api_Pair} (h : GA l) (p : List.Perm l m) : SameO (turnE r n l) (turnE r n m) := by
  have hh : holdsE r n l = holdsE r n m := by
    unfold holdsE looked
    rw [getA_perm h.u p]
  unfold turnE
  rw [hh, getA_perm h.u p]
  by_cases k1 : r.Kind = 1
  · rw [if_pos k1, if_pos k1]
    split
    · exact p
    · exact trivial
  rw [if_neg k1, if_neg k1]
  by_cases k2 : r.Kind = 2
  · rw [if_pos k2, if_pos k2]
    split
    · exact trivial
    · exact p
  rw [if_neg k2, if_neg k2]
  by_cases k3 : r.Kind = 3
  · rw [if_pos k3, if_pos k3]
    split
    · exact (p.filter _).append_right _
    · exact p
  rw [if_neg k3, if_neg k3]
  by_cases k4 : r.Kind = 4
  · rw [if_pos k4, if_pos k4]
    cases getA m r.Key with
    | none => exact p
    | some v =>
      dsimp only
      split
      · exact ((p.filter _).filter _).append_right _
      · exact p
  rw [if_neg k4, if_neg k4]
  exact p.filter _
def SameS (d : Nat) : Nat ⊕ List api_Pair → Nat ⊕ List api_Pair → Prop
  | .inl i, .inl j => i = j + d
  | .inr l, .inr m => List.Perm l m
  | _, _ => False
theorem thruE_perm {n : List UInt8} {d : Nat} {rs : List api_Rule} : ∀ {i : Nat} {l m : List api_Pair}, (∀ r ∈ rs, GoodR r) → GA l → List.Perm l m → SameS d (thruE n rs (i + d) l) (thruE n rs i m) := by
  induction rs with
  | nil => intro i l m _ _ p; exact p
  | cons r rs ih =>
    intro i l m gr h p
    have ht := turnE_perm (r := r) (n := n) h p
    unfold thruE
    cases hl : turnE r n l with
    | none =>
      cases hm : turnE r n m with
      | none => exact rfl
      | some m' => rw [hl, hm] at ht; exact absurd ht id
    | some l' =>
      cases hm : turnE r n m with
      | none => rw [hl, hm] at ht; exact absurd ht id
      | some m' =>
        rw [hl, hm] at ht
        have g := (h.turn (gr r (by simp)) hl).1
        have := ih (i := i + 1) (fun x hx => gr x (by simp [hx])) g ht
        rwa [show i + 1 + d = i + d + 1 by omega] at this
theorem thruE_c (n : List UInt8) (r : api_Rule) (rs : List api_Rule) (i : Nat) (l : List api_Pair) : thruE n (r :: rs) i l = match turnE r n l with | none => .inl i | some l' => thruE n rs (i + 1) l' := rfl
theorem thruE_app {n : List UInt8} {rs qs : List api_Rule} : ∀ {i : Nat} {l : List api_Pair}, thruE n (rs ++ qs) i l = match thruE n rs i l with
    | .inl k => .inl k
    | .inr l' => thruE n qs (i + rs.length) l' := by
  induction rs with
  | nil => intro i l; rfl
  | cons r rs ih =>
    intro i l
    rw [List.cons_append, thruE_c, thruE_c]
    cases turnE r n l with
    | none => rfl
    | some l' =>
      dsimp only
      rw [ih, List.length_cons, show i + (rs.length + 1) = i + 1 + rs.length by omega]
theorem chkE_attrs {p : api_Point} {l m : List api_Pair} (h : GA l) (q : List.Perm l m) : chkE { p with Attrs := l } = chkE { p with Attrs := m } := by
  have e : labelE p.Name l = labelE p.Name m := by rw [labelE_ga h, labelE_ga (h.perm q), q.length_eq]
  unfold chkE
  dsimp only
  rw [e]
end Go.Lg
namespace Go.Lg
attribute [local irreducible] w64 toU64 toU8 shlU shrU shlB shrB spanS
theorem few_some (l : List api_Rule) : ∃ b, ref33_Few l = some b ∧ (b = true → l.length ≤ 70) := by
  unfold ref33_Few
  by_cases h : 70 < l.length
  · exact ⟨false, by rw [bifTd (by omega)], fun e => by cases e⟩
  · rw [bifFd (by omega), scan0 (n := l.length) (fun i => if 70 < (l.getD i ⟨0, [], [], [], []⟩).Glob.length ∨ 100 < (l.getD i ⟨0, [], [], [], []⟩).Key.length ∨ 100 < (l.getD i ⟨0, [], [], [], []⟩).To.length ∨ 100 < (l.getD i ⟨0, [], [], [], []⟩).Val.length then some false else none) (fun i hi => by
      unfold ref33_Few_lp1
      have hg : l.getD i ⟨0, [], [], [], []⟩ = l[i] := by simp [List.getD, hi]
      rw [hg, bifTd (by omega), idx_nat hi, bind_some, bind_some]
      generalize l[i] = r
      by_cases h1 : 70 < r.Glob.length
      · rw [bifTd (by omega), bind_some, cond_true, bind_some, cond_true, bind_some, bifT rfl, if_pos (.inl h1)]; rfl
      rw [bifFd (by omega), bind_some]
      by_cases h2 : 100 < r.Key.length
      · rw [bifTd (by omega), bind_some, cond_true, bind_some, bifT rfl, if_pos (.inr (.inl h2))]; rfl
      rw [bifFd (by omega), bind_some, bind_some]
      by_cases h3 : 100 < r.To.length
      · rw [bifTd (by omega), bind_some, bifT rfl, if_pos (.inr (.inr (.inl h3)))]; rfl
      rw [bifFd (by omega), bind_some, bind_some]
      by_cases h4 : 100 < r.Val.length
      · rw [bifTd (by omega), if_pos (.inr (.inr (.inr h4)))]; rfl
      rw [bifFd (by omega), if_neg (by omega), lett_eq, w64_succ (by omega)]; rfl) (by
      unfold ref33_Few_lp1
      rw [bifFd (by omega)]), flow_E]
    cases firstE (fun i => if 70 < (l.getD i ⟨0, [], [], [], []⟩).Glob.length ∨ 100 < (l.getD i ⟨0, [], [], [], []⟩).Key.length ∨ 100 < (l.getD i ⟨0, [], [], [], []⟩).To.length ∨ 100 < (l.getD i ⟨0, [], [], [], []⟩).Val.length then some false else none) l.length 0 with
    | none => exact ⟨true, rfl, fun _ => by omega⟩
    | some b => exact ⟨b, rfl, fun _ => by omega⟩
theorem compR_cases (l : List api_Rule) : (∃ at_ e, compR l = (none, at_, e) ∧ e ≠ 0) ∨ (compR l = (some ⟨l.map mkR⟩, 0, 0) ∧ l.length ≤ 64 ∧ ∀ r ∈ l, ruleE r = 0) := by
  unfold compR
  by_cases h : 64 < l.length
  · rw [if_pos h]; exact .inl ⟨64, 4, rfl, by decide⟩
  · rw [if_neg h]
    cases hb : badR l 0 with
    | some x => exact .inl ⟨_, _, rfl, badR_err hb⟩
    | none => exact .inr ⟨rfl, by omega, badR_none hb⟩
theorem compR_good {l : List api_Rule} (h : ∀ r ∈ l, ruleE r = 0) (hl : l.length ≤ 64) : compR l = (some ⟨l.map mkR⟩, 0, 0) := by
  unfold compR
  rw [if_neg (by omega), badR_of h]
/-! ### RelabelChecks -/
/-! ### RelabelApplies -/
/-! ### RelabelParts -/
theorem relabelParts (l : List api_Rule) (a : Int) (p : api_Point) (ip : IsP p) : law33_RelabelParts l a p = some true := by
  unfold law33_RelabelParts
  obtain ⟨b, hb, hl⟩ := few_some l
  rw [awake33, bind_some, bifF (c := !true) rfl, hb, bind_some]
  cases b with
  | false => rw [bifT (c := !false) rfl, bind_some, bifT rfl]
  | true =>
    rw [bifF (c := !true) rfl, rlightP_eq, bind_some, bind_some]
    by_cases lp : lightP p = true
    case neg => rw [bifT (by simpa using lp)]
    have ok := (lightP_of lp).pok ip
    obtain ⟨k, hk, hkl⟩ : ∃ k : Nat, min (max a 0) (l.length : Int) = (k : Int) ∧ k ≤ l.length := ⟨(min (max a 0) (l.length : Int)).toNat, by omega, by omega⟩
    rw [bifF (by simp [lp]), lett_eq, hk, compR_eq, bind_some]
    have hs1 : slc l ((0 : Nat) : Int) (k : Int) = some (l.take k) := by rw [slc_nat (by omega) hkl, List.drop_zero]
    have hs2 : slc l (k : Int) (l.length : Int) = some (l.drop k) := by rw [slc_nat hkl (Nat.le_refl _), List.take_of_length_le (Nat.le_refl _)]
    rw [show (0 : Int) = ((0 : Nat) : Int) from rfl, hs1]
    rcases compR_cases l with ⟨at_, e, h, _⟩ | ⟨h, h64, hg⟩
    · rw [h]
      dsimp only
      rw [bind_some, compR_eq, bind_some]
      try dsimp only
      rw [hs2, bind_some, compR_eq, bind_some]
      try dsimp only
      rw [bifT (by simp)]; rfl
    · have g1 : ∀ r ∈ l.take k, ruleE r = 0 := fun r hr => hg r (List.mem_of_mem_take hr)
      have g2 : ∀ r ∈ l.drop k, ruleE r = 0 := fun r hr => hg r (List.mem_of_mem_drop hr)
      have l1 : (l.take k).length ≤ 64 := by rw [List.length_take]; omega
      have l2 : (l.drop k).length ≤ 64 := by rw [List.length_drop]; omega
      have gr : ∀ r ∈ l, GoodR r := fun r hr => goodR (hg r hr)
      have gr1 : ∀ r ∈ l.take k, GoodR r := fun r hr => goodR (g1 r hr)
      have gr2 : ∀ r ∈ l.drop k, GoodR r := fun r hr => goodR (g2 r hr)
      have pk := apply_pok (rs := l) ok.o ok.i
      have pk1 := apply_pok (rs := l.take k) ok.o ok.i
      have pk2 := apply_pok (rs := l.drop k) pk1.o pk1.i
      rw [h]
      dsimp only
      rw [bind_some, compR_eq, compR_good g1 l1, bind_some]
      dsimp only
      rw [hs2, bind_some, compR_eq, compR_good g2 l2, bind_some]
      dsimp only
      rw [bifF (by simp), bind_some, apply_eq gr (by omega) ok.o, bind_some]
      try dsimp only
      rw [bind_some, apply_eq gr1 (by omega) ok.o, bind_some]
      try dsimp only
      by_cases he : (applyE (l.take k) p).2.2 = 0
      case neg => rw [bifT (by simp [he])]
      rw [bifF (by simp [he])]
      -- what comes of the first part
      have hsplit : thruE p.Name l 0 p.Attrs = match thruE p.Name (l.take k) 0 p.Attrs with
          | .inl j => .inl j
          | .inr l' => thruE p.Name (l.drop k) (0 + (l.take k).length) l' := by
        conv => lhs; rw [← List.take_append_drop k l]
        exact thruE_app
      have hc : chkE p = 0 := by
        by_cases hc : chkE p = 0
        · exact hc
        · unfold applyE at he; rw [if_pos hc] at he; exact absurd he hc
      obtain ⟨ga, hn, hla⟩ := chk_ga hc
      cases ht : thruE p.Name (l.take k) 0 p.Attrs with
      | inl j =>
        rw [ht] at hsplit
        have e1 : applyE (l.take k) p = (Pt0, false, 0) := by unfold applyE; rw [if_neg (fun e => e hc), ht]
        have e2 : applyE l p = (Pt0, false, 0) := by unfold applyE; rw [if_neg (fun e => e hc), hsplit]
        rw [e1, e2]
        dsimp only
        rw [bifT (c := !false) rfl, lett_eq]
        rfl
      | inr m1 =>
        rw [ht] at hsplit
        dsimp only at hsplit
        obtain ⟨gm, _⟩ := thruE_ga gr1 ga ht
        have hc1 : chkE { p with Attrs := m1 } = 0 := by
          by_cases hc1 : chkE { p with Attrs := m1 } = 0
          · exact hc1
          · unfold applyE at he; rw [if_neg (fun e => e hc), ht] at he
            dsimp only at he
            rw [if_pos hc1] at he; exact absurd he hc1
        have e1 : applyE (l.take k) p = ({ p with Attrs := srt m1 }, true, 0) := by
          unfold applyE; rw [if_neg (fun e => e hc), ht]
          dsimp only
          rw [if_neg (fun e => e hc1)]
        rw [e1] at pk2 pk1 ⊢
        dsimp only at pk2 pk1 ⊢
        rw [bifF (c := !true) rfl, bind_some, apply_eq gr2 (by omega) pk1.o, bind_some]
        try dsimp only
        have hsp := (srt_perm m1).symm
        have hc2 : chkE { p with Attrs := srt m1 } = 0 := by rw [← chkE_attrs gm hsp]; exact hc1
        have hpm := thruE_perm (n := p.Name) (d := 0 + (l.take k).length) (i := 0) gr2 gm hsp
        rw [Nat.zero_add (0 + (l.take k).length)] at hpm
        rw [← hsplit] at hpm
        have fin : applyE l p = applyE (l.drop k) { p with Attrs := srt m1 } ∧ ((applyE l p).2.1 = true → { (applyE l p).1 with Name := p.Name, Attrs := p.Attrs } = p) := by
          have eb : applyE (l.drop k) { p with Attrs := srt m1 } = match thruE p.Name (l.drop k) 0 (srt m1) with
            | .inl _ => (Pt0, false, 0)
            | .inr q => if chkE { p with Attrs := q } ≠ 0 then (Pt0, false, chkE { p with Attrs := q }) else ({ p with Attrs := srt q }, true, 0) := by
            show (if chkE { p with Attrs := srt m1 } ≠ 0 then _ else _) = _
            rw [if_neg (fun e => e hc2)]
            try rfl
          rw [eb]
          unfold applyE
          rw [if_neg (fun e => e hc)]
          cases hA : thruE p.Name l 0 p.Attrs with
          | inl i =>
            cases hB : thruE p.Name (l.drop k) 0 (srt m1) with
            | inl j => exact ⟨rfl, fun e => by cases e⟩
            | inr q => rw [hA, hB] at hpm; exact absurd hpm id
          | inr x =>
            cases hB : thruE p.Name (l.drop k) 0 (srt m1) with
            | inl j => rw [hA, hB] at hpm; exact absurd hpm id
            | inr q =>
              rw [hA, hB] at hpm
              have hxq : List.Perm x q := hpm
              obtain ⟨gx, _⟩ := thruE_ga gr ga hA
              dsimp only
              rw [chkE_attrs gx hxq, srt_eq gx.u hxq]
              refine ⟨rfl, fun e => ?_⟩
              split at e
              · cases e
              · rename_i hz
                rw [if_neg hz]
        rw [← fin.1]
        rw [bifF (by simp), same_pok pk, bind_some, bind_some, bifF (c := !true) rfl]
        cases hq : (applyE l p).2.1 with
        | false => rw [bifT (c := !false) rfl]
        | true =>
          rw [bifF (c := !true) rfl]
          have := fin.2 hq
          have e5 : api_Point.mk p.Name p.Attrs (applyE l p).1.Kind (applyE l p).1.Temp (applyE l p).1.Mono (applyE l p).1.Start (applyE l p).1.Time (applyE l p).1.Int_ (applyE l p).1.Re (applyE l p).1.Im (applyE l p).1.Hist (applyE l p).1.Flags = p := this
          rw [e5, same_pok ok, bind_some]
/-! ### RelabelNone -/
end Go.Lg
