/- Law 10: what is read of a histogram, by the document. -/
import Derived.Test.YtdpokdaeekanjaaRkLg10b
set_option linter.unusedVariables false
namespace Go.Lg
attribute [local irreducible] w64 toU64 toU8 shlU shrU shlB shrB
structure SR where
  v : Nat
  q : Nat
  e : Int
/-- k bits, if nothing went wrong yet -/
def rB (B : List Int) (k q : Nat) (e : Int) : SR :=
  if e ≠ 0 then ⟨0, q, e⟩ else if B.length - q < k then ⟨0, q, 2⟩ else ⟨dv ((B.drop q).take k), q + k, 0⟩
/-- a small one, if nothing went wrong yet -/
def rS (B : List Int) (q : Nat) (e : Int) : SR :=
  if e ≠ 0 then ⟨0, q, e⟩ else ⟨(getSmall (B.drop q)).v, q + (getSmall (B.drop q)).n, (getSmall (B.drop q)).e⟩
theorem rB_lt {B : List Int} (hb : Bit B) {k q : Nat} {e : Int} : (rB B k q e).v < 2 ^ k := by
  have h0 : 0 < 2 ^ k := Nat.pow_pos (by omega)
  unfold rB
  split
  · exact h0
  · split
    · exact h0
    · have h1 := dv_lt ((hb.drop q).take k)
      have h2 : 2 ^ ((B.drop q).take k).length ≤ 2 ^ k := Nat.pow_le_pow_right (by omega) (by rw [List.length_take]; omega)
      dsimp only; omega
theorem rS_lt {B : List Int} (hb : Bit B) {q : Nat} {e : Int} : (rS B q e).v < 18446744073709551616 := by
  unfold rS
  split
  · dsimp only; omega
  · exact getSmall_lt (hb.drop q)
/-- what a count comes to: read by itself, or beside the one before -/
def val (o : Option UInt64) (v : Nat) : UInt64 := match o with
  | none => UInt64.ofNat v
  | some w => toU64 (zag v) + w
structure SC where
  l : List UInt64
  q : Nat
  e : Int
def rC (B : List Int) : List (Option UInt64) → Nat → Int → SC
  | [], q, e => ⟨[], q, e⟩
  | o :: os, q, e => ⟨val o (rS B q e).v :: (rC B os (rS B q e).q (rS B q e).e).l, (rC B os (rS B q e).q (rS B q e).e).q, (rC B os (rS B q e).q (rS B q e).e).e⟩
theorem rC_len (B : List Int) : ∀ (os : List (Option UInt64)) (q : Nat) (e : Int), (rC B os q e).l.length = os.length
  | [], _, _ => rfl
  | _ :: os, q, e => by rw [rC, List.length_cons, List.length_cons, rC_len B os]
theorem rC_app (B : List Int) : ∀ (os ps : List (Option UInt64)) (q : Nat) (e : Int), rC B (os ++ ps) q e = ⟨(rC B os q e).l ++ (rC B ps (rC B os q e).q (rC B os q e).e).l, (rC B ps (rC B os q e).q (rC B os q e).e).q, (rC B ps (rC B os q e).q (rC B os q e).e).e⟩
  | [], _, _, _ => rfl
  | o :: os, ps, q, e => by rw [List.cons_append, rC, rC_app B os ps]; rfl
structure SD where
  s : api_Side
  q : Nat
  e : Int
def e4 (a : SR) : Int := if a.e = 0 ∧ 160 < a.v then 4 else a.e
def rSide (B : List Int) (q : Nat) (e : Int) : SD :=
  if e4 (rB B 8 q e) ≠ 0 ∨ (rB B 8 q e).v = 0 then ⟨⟨0, []⟩, (rB B 8 q e).q, e4 (rB B 8 q e)⟩
  else ⟨⟨zag (rS B (rB B 8 q e).q (e4 (rB B 8 q e))).v, List.replicate (rB B 8 q e).v 0⟩, (rS B (rB B 8 q e).q (e4 (rB B 8 q e))).q, (rS B (rB B 8 q e).q (e4 (rB B 8 q e))).e⟩
theorem rSide_len (B : List Int) (hb : Bit B) (q : Nat) (e : Int) : (rSide B q e).s.Counts.length ≤ 255 := by
  unfold rSide
  split
  · simp
  · have := rB_lt hb (k := 8) (q := q) (e := e)
    dsimp only
    rw [List.length_replicate]; omega
structure HR where
  h : api_Hist
  n : Nat
  e : Int
def mkH (sc po : Int) (pl : Nat) (no : Int) (l : List UInt64) : api_Hist := ⟨sc, l.getD 0 0, ⟨po, (l.drop 1).take pl⟩, ⟨no, l.drop (1 + pl)⟩⟩
def getT (same : Bool) (row : List api_Hist) (sc po : Int) (pl : Nat) (no : Int) (r : SC) : HR :=
  if r.e ≠ 0 then ⟨H0, 0, r.e⟩
  else if histE (mkH sc po pl no r.l) ≠ 0 then ⟨H0, 0, histE (mkH sc po pl no r.l)⟩
  else if same = false ∧ alk row (mkH sc po pl no r.l) = true then ⟨H0, 0, 3⟩
  else ⟨mkH sc po pl no r.l, r.q, 0⟩
/-- a histogram that is read behind some others -/
def getH (row : List api_Hist) (B : List Int) : HR :=
  if (rB B 1 0 0).v = 1 ∧ row.length = 0 then ⟨H0, 0, 3⟩
  else if (rB B 1 0 0).v = 1 then
    getT true row (lastH row).Scale (lastH row).Pos.Offset (lastH row).Pos.Counts.length (lastH row).Neg.Offset (rC B ((allC (lastH row)).map some) (rB B 1 0 0).q (rB B 1 0 0).e)
  else
    let b := rB B 5 (rB B 1 0 0).q (rB B 1 0 0).e
    let p := rSide B b.q b.e
    let n := rSide B p.q p.e
    getT false row ((b.v : Int) - 10) p.s.Offset p.s.Counts.length n.s.Offset (rC B (List.replicate (1 + p.s.Counts.length + n.s.Counts.length) none) n.q n.e)
/-! ### the document's -/
end Go.Lg
