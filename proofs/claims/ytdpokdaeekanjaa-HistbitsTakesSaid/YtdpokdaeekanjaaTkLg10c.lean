/- Law 10: what is read of a histogram, by the document. -/
import Derived.Test.YtdpokdaeekanjaaTkLg10b
set_option linter.unusedVariables false
namespace Go.Lg
attribute [local irreducible] w64 toU64 toU8 shlU shrU shlB shrB
structure SR where
  v : Nat
  q : Nat
  e : Int
/-- k bits, if nothing went wrong yet -/
def rB (B : List Int) (k q : Nat) (e : Int) : SR :=
  if e ≠ 0 then ⟨0, q, e⟩ else if B.length - q < k then ⟨0, q, 2⟩ else ⟨dv ((B.drop q).take k), q + k, 0⟩
/-- a small one, if nothing went wrong yet -/
def rS (B : List Int) (q : Nat) (e : Int) : SR :=
  if e ≠ 0 then ⟨0, q, e⟩ else ⟨(getSmall (B.drop q)).v, q + (getSmall (B.drop q)).n, (getSmall (B.drop q)).e⟩
theorem rB_le {B : List Int} {k q : Nat} {e : Int} (h : q ≤ B.length) : (rB B k q e).q ≤ B.length := by
  unfold rB
  split
  · exact h
  · split
    · exact h
    · dsimp only; omega
theorem rB_lt {B : List Int} (hb : Bit B) {k q : Nat} {e : Int} : (rB B k q e).v < 2 ^ k := by
  have h0 : 0 < 2 ^ k := Nat.pow_pos (by omega)
  unfold rB
  split
  · exact h0
  · split
    · exact h0
    · have h1 := dv_lt ((hb.drop q).take k)
      have h2 : 2 ^ ((B.drop q).take k).length ≤ 2 ^ k := Nat.pow_le_pow_right (by omega) (by rw [List.length_take]; omega)
      dsimp only; omega
theorem rS_le {B : List Int} (hb : Bit B) {q : Nat} {e : Int} (h : q ≤ B.length) : (rS B q e).q ≤ B.length := by
  unfold rS
  split
  · exact h
  · dsimp only
    by_cases he : (getSmall (B.drop q)).e = 0
    · have := (getSmall_got (hb.drop q) he).1
      rw [List.length_drop] at this
      omega
    · rw [(getSmall_no he).2]; exact h
theorem rS_lt {B : List Int} (hb : Bit B) {q : Nat} {e : Int} : (rS B q e).v < 18446744073709551616 := by
  unfold rS
  split
  · dsimp only; omega
  · exact getSmall_lt (hb.drop q)
/-- what a count comes to: read by itself, or beside the one before -/
def val (o : Option UInt64) (v : Nat) : UInt64 := match o with
  | none => UInt64.ofNat v
  | some w => toU64 (zag v) + w
structure SC where
  l : List UInt64
  q : Nat
  e : Int
def rC (B : List Int) : List (Option UInt64) → Nat → Int → SC
  | [], q, e => ⟨[], q, e⟩
  | o :: os, q, e => ⟨val o (rS B q e).v :: (rC B os (rS B q e).q (rS B q e).e).l, (rC B os (rS B q e).q (rS B q e).e).q, (rC B os (rS B q e).q (rS B q e).e).e⟩
theorem rC_len (B : List Int) : ∀ (os : List (Option UInt64)) (q : Nat) (e : Int), (rC B os q e).l.length = os.length
  | [], _, _ => rfl
  | _ :: os, q, e => by rw [rC, List.length_cons, List.length_cons, rC_len B os]
theorem rC_le {B : List Int} (hb : Bit B) : ∀ (os : List (Option UInt64)) (q : Nat) (e : Int), q ≤ B.length → (rC B os q e).q ≤ B.length
  | [], _, _, h => h
  | _ :: os, q, e, h => rC_le hb os _ _ (rS_le hb h)
theorem rC_app (B : List Int) : ∀ (os ps : List (Option UInt64)) (q : Nat) (e : Int), rC B (os ++ ps) q e = ⟨(rC B os q e).l ++ (rC B ps (rC B os q e).q (rC B os q e).e).l, (rC B ps (rC B os q e).q (rC B os q e).e).q, (rC B ps (rC B os q e).q (rC B os q e).e).e⟩
  | [], _, _, _ => rfl
  | o :: os, ps, q, e => by rw [List.cons_append, rC, rC_app B os ps]; rfl
structure SD where
  s : api_Side
  q : Nat
  e : Int
def e4 (a : SR) : Int := if a.e = 0 ∧ 160 < a.v then 4 else a.e
def rSide (B : List Int) (q : Nat) (e : Int) : SD :=
  if e4 (rB B 8 q e) ≠ 0 ∨ (rB B 8 q e).v = 0 then ⟨⟨0, []⟩, (rB B 8 q e).q, e4 (rB B 8 q e)⟩
  else ⟨⟨zag (rS B (rB B 8 q e).q (e4 (rB B 8 q e))).v, List.replicate (rB B 8 q e).v 0⟩, (rS B (rB B 8 q e).q (e4 (rB B 8 q e))).q, (rS B (rB B 8 q e).q (e4 (rB B 8 q e))).e⟩
theorem rSide_le {B : List Int} (hb : Bit B) {q : Nat} {e : Int} (h : q ≤ B.length) : (rSide B q e).q ≤ B.length := by
  unfold rSide
  split
  · exact rB_le h
  · exact rS_le hb (rB_le h)
theorem rSide_len (B : List Int) (hb : Bit B) (q : Nat) (e : Int) : (rSide B q e).s.Counts.length ≤ 255 := by
  unfold rSide
  split
  · simp
  · have := rB_lt hb (k := 8) (q := q) (e := e)
    dsimp only
    rw [List.length_replicate]; omega
structure HR where
  h : api_Hist
  n : Nat
  e : Int
def mkH (sc po : Int) (pl : Nat) (no : Int) (l : List UInt64) : api_Hist := ⟨sc, l.getD 0 0, ⟨po, (l.drop 1).take pl⟩, ⟨no, l.drop (1 + pl)⟩⟩
def getT (same : Bool) (row : List api_Hist) (sc po : Int) (pl : Nat) (no : Int) (r : SC) : HR :=
  if r.e ≠ 0 then ⟨H0, 0, r.e⟩
  else if histE (mkH sc po pl no r.l) ≠ 0 then ⟨H0, 0, histE (mkH sc po pl no r.l)⟩
  else if same = false ∧ alk row (mkH sc po pl no r.l) = true then ⟨H0, 0, 3⟩
  else ⟨mkH sc po pl no r.l, r.q, 0⟩
/-- a histogram that is read behind some others -/
def getH (row : List api_Hist) (B : List Int) : HR :=
  if (rB B 1 0 0).v = 1 ∧ row.length = 0 then ⟨H0, 0, 3⟩
  else if (rB B 1 0 0).v = 1 then
    getT true row (lastH row).Scale (lastH row).Pos.Offset (lastH row).Pos.Counts.length (lastH row).Neg.Offset (rC B ((allC (lastH row)).map some) (rB B 1 0 0).q (rB B 1 0 0).e)
  else
    let b := rB B 5 (rB B 1 0 0).q (rB B 1 0 0).e
    let p := rSide B b.q b.e
    let n := rSide B p.q p.e
    getT false row ((b.v : Int) - 10) p.s.Offset p.s.Counts.length n.s.Offset (rC B (List.replicate (1 + p.s.Counts.length + n.s.Counts.length) none) n.q n.e)
/-! ### the document's -/
theorem stBits_eq {B : List Int} (hb : Bit B) (hB : B.length ≤ 1000000) {k q : Nat} {e : Int} (hk : k ≤ 8) (hq : q ≤ B.length) :
    ref10_State_bits ⟨B, (q : Int), e⟩ (k : Int) = some (((rB B k q e).v : Int), ⟨B, ((rB B k q e).q : Int), (rB B k q e).e⟩) := by
  have hlt := rB_lt hb (k := k) (q := q) (e := e)
  have h256 : 2 ^ k ≤ 2 ^ 8 := Nat.pow_le_pow_right (by omega) hk
  unfold ref10_State_bits
  dsimp only
  by_cases he : e = 0
  · subst he
    have hw : w64 ((B.length : Int) - (q : Int)) = ((B.length - q : Nat) : Int) := w64_subN hq (by omega)
    rw [bifF (by rfl), hw]
    unfold rB at *
    rw [if_neg (by simp)] at *
    by_cases h1 : B.length - q < k
    · rw [bifTd (by omega), if_pos h1]; rfl
    · rw [if_neg h1] at *
      dsimp only at *
      have h5 : w64 ((q : Int) + (k : Int)) = ((q + k : Nat) : Int) := w64_addN (by omega)
      have h6 : w64 (((q + k : Nat) : Int) - (k : Int)) = (q : Int) := by rw [w64_subN (by omega) (by omega)]; congr 1; omega
      have h7 : (B.take (q + k)).drop q = (B.drop q).take k := by rw [List.drop_take]; congr 1; omega
      rw [bifFd (by omega), lett_eq, h5, h6, slc_nat (by omega) (by omega), bind_some, h7, number_eq ((hb.drop q).take k) (by rw [List.length_take]; omega), bind_some, lett_eq, u64_ofNat (by omega), w64_nat (by omega)]
  · rw [bifT (by rw [decide_eq_false he]; rfl)]
    unfold rB; rw [if_pos he]; rfl
theorem stSmall_eq {B : List Int} (hb : Bit B) (hB : B.length ≤ 1000000) {q : Nat} {e : Int} (hq : q ≤ B.length) :
    ref10_State_small ⟨B, (q : Int), e⟩ = some (UInt64.ofNat (rS B q e).v, ⟨B, ((rS B q e).q : Int), (rS B q e).e⟩) := by
  unfold ref10_State_small
  dsimp only
  by_cases he : e = 0
  · subst he
    have hn := getSmall_n (l := B.drop q)
    have hl : (B.drop q).length ≤ 1000000 := by rw [List.length_drop]; omega
    rw [bifF (by rfl), slc_rest hq, bind_some, getSmall_eq (hb.drop q) hl, bind_some, bind_some, lett_eq]
    dsimp only
    rw [w64_addN (by omega)]
    unfold rS; rw [if_neg (by simp)]
  · rw [bifT (by rw [decide_eq_false he]; rfl)]
    unfold rS; rw [if_pos he]; rfl
theorem sideZero_loop {n : Nat} (hn : n ≤ 1000) : loop (ref10_State_side_lp1 (n : Int)) ([], 0) = some (.go (List.replicate n 0)) := by
  refine loop_for (fun i => (List.replicate i (0 : UInt64), (i : Int))) n (fun i hi => ?_) ?_
  · unfold ref10_State_side_lp1
    dsimp only
    rw [bifTd (by omega), app_ok (by rw [List.length_replicate]; simp; omega), bind_some, lett_eq, w64_succ (by omega), ← List.replicate_succ']
  · unfold ref10_State_side_lp1
    dsimp only
    rw [bifFd (by omega)]
theorem stSide_eq {B : List Int} (hb : Bit B) (hB : B.length ≤ 1000000) {q : Nat} {e : Int} (hq : q ≤ B.length) :
    ref10_State_side ⟨B, (q : Int), e⟩ = some ((rSide B q e).s, ⟨B, ((rSide B q e).q : Int), (rSide B q e).e⟩) := by
  have h1 := stBits_eq hb hB (k := 8) (e := e) (by omega) hq
  have h2 := rB_le (k := 8) (e := e) hq
  have h3 := rB_lt hb (k := 8) (q := q) (e := e)
  have h1' : ref10_State_bits ⟨B, (q : Int), e⟩ 8 = _ := h1
  unfold ref10_State_side rSide
  rw [h1', bind_some]
  dsimp only
  generalize rB B 8 q e = a at *
  have he4 : (bif ((decide (a.e = 0)) && (decide (160 < (a.v : Int)))) then some 4 else some a.e : Option Int) = some (e4 a) := by
    unfold e4
    by_cases h : a.e = 0 ∧ 160 < a.v
    · rw [bifT (by rw [decide_eq_true h.1, decide_eq_true (by omega)]; rfl), if_pos h]
    · rw [bifF (by rw [Bool.and_eq_false_iff, decide_eq_false_iff_not, decide_eq_false_iff_not]; omega), if_neg h]
  rw [he4, bind_some]
  by_cases h5 : e4 a ≠ 0 ∨ a.v = 0
  · rw [if_pos h5, bifT]
    rw [Bool.or_eq_true, Bool.not_eq_true', decide_eq_false_iff_not, decide_eq_true_eq]; omega
  · have h6 := stSmall_eq hb hB (e := e4 a) h2
    have h7 := rS_lt hb (q := a.q) (e := e4 a)
    rw [if_neg h5, bifF (by rw [Bool.or_eq_false_iff, Bool.not_eq_false', decide_eq_true_eq, decide_eq_false_iff_not]; omega), h6, bind_some]
    dsimp only
    rw [refZag_eq, bind_some, u64_ofNat h7, sideZero_loop (by omega), flow_go]
theorem stCounts_loop {B : List Int} (hb : Bit B) (hB : B.length ≤ 1000000) {same : Bool} {was : List UInt64} {N : Nat} (hN : N ≤ 100000) (hs : same = true → was.length = N) : ∀ (m i q : Nat) (e : Int) (now : List UInt64), i + m = N → q ≤ B.length → now.length = i →
    loop (ref10_Get_lp1 same was (N : Int)) (B, (q : Int), e, now, (i : Int)) =
      some (.go (B, ((rC B (if same = true then (was.drop i).map some else List.replicate m none) q e).q : Int), (rC B (if same = true then (was.drop i).map some else List.replicate m none) q e).e, now ++ (rC B (if same = true then (was.drop i).map some else List.replicate m none) q e).l))
  | 0, i, q, e, now, h, hq, hn => by
    have : (if same = true then (was.drop i).map some else List.replicate 0 none : List (Option UInt64)) = [] := by
      split
      · rename_i h1; rw [List.drop_eq_nil_of_le (by have := hs h1; omega)]; rfl
      · rfl
    rw [this]
    rw [loop_brk (b := (B, (q : Int), e, now))]
    · rw [rC, List.append_nil]
    · unfold ref10_Get_lp1
      dsimp only
      rw [bifFd (by omega)]
  | m + 1, i, q, e, now, h, hq, hn => by
    have hsm := stSmall_eq hb hB (e := e) hq
    have hlt := rS_lt hb (q := q) (e := e)
    have ih := stCounts_loop hb hB hN hs m (i + 1) (rS B q e).q (rS B q e).e
    have hle := rS_le hb (e := e) hq
    cases same with
    | true =>
      have hw : i < was.length := by have := hs rfl; omega
      rw [loop_next (s' := (B, ((rS B q e).q : Int), (rS B q e).e, now ++ [val (some was[i]) (rS B q e).v], ((i + 1 : Nat) : Int))), ih _ (by omega) hle (by simp [hn])]
      · rw [if_pos rfl, if_pos rfl, List.drop_eq_getElem_cons hw, List.map_cons, rC]
        simp only [List.append_assoc, List.cons_append, List.nil_append]
      · unfold ref10_Get_lp1
        dsimp only
        rw [bifTd (by omega), hsm, bind_some]
        dsimp only
        rw [cond_true, idx_nat hw, bind_some, refZag_eq, bind_some, u64_ofNat hlt, lett_eq, bind_some, app_ok (by simp; omega), bind_some, bind_some, lett_eq, w64_succ (by omega), UInt64.add_comm]; rfl
    | false =>
      rw [loop_next (s' := (B, ((rS B q e).q : Int), (rS B q e).e, now ++ [val none (rS B q e).v], ((i + 1 : Nat) : Int))), ih _ (by omega) hle (by simp [hn])]
      · rw [if_neg (by simp), if_neg (by simp), List.replicate_succ, rC]
        simp only [List.append_assoc, List.cons_append, List.nil_append]
      · unfold ref10_Get_lp1
        dsimp only
        rw [bifTd (by omega), hsm, bind_some]
        dsimp only
        rw [cond_false, bind_some, app_ok (by simp; omega), bind_some, bind_some, lett_eq, w64_succ (by omega)]; rfl
end Go.Lg
