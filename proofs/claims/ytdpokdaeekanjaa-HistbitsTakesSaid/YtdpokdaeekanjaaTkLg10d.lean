/- Law 10: the document's reading, put together. -/
import Derived.Test.YtdpokdaeekanjaaTkLg10c
set_option linter.unusedVariables false
namespace Go.Lg
attribute [local irreducible] w64 toU64 toU8 shlU shrU shlB shrB
theorem mkH_pos (sc po : Int) (pl : Nat) (no : Int) (l : List UInt64) (h : 1 + pl ≤ l.length) : (mkH sc po pl no l).Pos.Counts.length = pl := by
  unfold mkH; dsimp only; rw [List.length_take, List.length_drop]; omega
theorem mkH_neg (sc po : Int) (pl : Nat) (no : Int) (l : List UInt64) : (mkH sc po pl no l).Neg.Counts.length = l.length - (1 + pl) := by
  unfold mkH; dsimp only; rw [List.length_drop]
theorem mkH_ok {sc po : Int} {pl : Nat} {no : Int} {l : List UInt64} (h1 : I64 sc) (h2 : I64 po) (h3 : I64 no) (h4 : 1 + pl ≤ l.length) (h5 : l.length ≤ 10000) : OkH (mkH sc po pl no l) :=
  ⟨h1, h2, h3, by rw [mkH_pos _ _ _ _ _ h4]; omega, by rw [mkH_neg]; omega⟩
theorem rSide_off {B : List Int} (hb : Bit B) (q : Nat) (e : Int) : I64 (rSide B q e).s.Offset := by
  unfold rSide
  split
  · show I64 0; unfold I64; omega
  · exact zag_I64 (rS_lt hb)
theorem refTail {same : Bool} {row : List api_Hist} (hrow : row.length ≤ 1000) {sc po : Int} {pl nl : Nat} {no : Int} {r : SC} (h1 : I64 sc) (h2 : I64 po) (h3 : I64 no) (h4 : r.l.length = 1 + pl + nl) (h5 : pl ≤ 1000) (h6 : nl ≤ 1000) :
    (bif (!decide (r.e = 0)) then
 some (ref10_Got.mk (api_Hist.mk 0 0 (api_Side.mk 0 []) (api_Side.mk 0 [])) 0 r.e)
 else
 lett (w64 (1 + (pl : Int))) fun k428 =>
 (idx r.l 0).bind fun e429 =>
 (slc r.l 1 k428).bind fun t442 =>
 (slc r.l k428 (r.l.length : Int)).bind fun t458 =>
 (ref08_Check (api_Hist.mk sc e429 (api_Side.mk po t442) (api_Side.mk no t458))).bind fun r473 =>
 bif (!decide (r473 = 0)) then
 some (ref10_Got.mk (api_Hist.mk 0 0 (api_Side.mk 0 []) (api_Side.mk 0 [])) 0 r473)
 else
 (bif ((!same) && (decide (0 < (row.length : Int)))) then
 (idx row (w64 ((row.length : Int) - 1))).bind fun e577 =>
 (ref10_Alike e577 (api_Hist.mk sc e429 (api_Side.mk po t442) (api_Side.mk no t458))).bind fun r623 =>
 some r623
 else
 some false).bind fun x543 =>
 bif x543 then
 some (ref10_Got.mk (api_Hist.mk 0 0 (api_Side.mk 0 []) (api_Side.mk 0 [])) 0 3)
 else
 some (ref10_Got.mk (api_Hist.mk sc e429 (api_Side.mk po t442) (api_Side.mk no t458)) (r.q : Int) 0)) =
    some ⟨(getT same row sc po pl no r).h, ((getT same row sc po pl no r).n : Int), (getT same row sc po pl no r).e⟩ := by
  unfold getT
  by_cases he : r.e = 0
  · have ok : OkH (mkH sc po pl no r.l) := mkH_ok h1 h2 h3 (by omega) (by omega)
    have hc := RCheck_eq ok
    have hh : api_Hist.mk sc (r.l[0]'(by omega)) (api_Side.mk po ((r.l.take (1 + pl)).drop 1)) (api_Side.mk no (r.l.drop (1 + pl))) = mkH sc po pl no r.l := by
      unfold mkH; rw [getD_lt (by omega), List.drop_take, show 1 + pl - 1 = pl by omega]
    have hw : w64 (1 + (pl : Int)) = ((1 + pl : Nat) : Int) := w64_addN (a := 1) (by omega)
    have hs : slc r.l 1 ((1 + pl : Nat) : Int) = some ((r.l.take (1 + pl)).drop 1) := slc_nat (i := 1) (by omega) (by omega)
    have hs2 : slc r.l ((1 + pl : Nat) : Int) (r.l.length : Int) = some (r.l.drop (1 + pl)) := by rw [slc_nat (by omega) (Nat.le_refl _), List.take_length]
    rw [bifF (by rw [decide_eq_true he]; rfl), if_neg (by simpa using he), lett_eq, hw, idx_0 (by omega), bind_some, hs, bind_some, hs2, bind_some, hh, hc, bind_some]
    generalize mkH sc po pl no r.l = h at *
    by_cases h7 : histE h = 0
    · rw [bifF (by rw [decide_eq_true h7]; rfl), if_neg (by simpa using h7)]
      have hcond : (bif ((!same) && (decide (0 < (row.length : Int)))) then (idx row (w64 ((row.length : Int) - 1))).bind fun e577 => (ref10_Alike e577 h).bind fun r623 => some r623 else some false) = some (!same && alk row h) := by
        unfold alk
        cases same with
        | true => rfl
        | false =>
          by_cases h0 : 0 < row.length
          · rw [bifT (by rw [decide_eq_true (by omega)]; rfl), show w64 ((row.length : Int) - 1) = ((row.length - 1 : Nat) : Int) by rw [w64_id] <;> omega, idx_nat (by omega), bind_some, alike_eq, bind_some]
            unfold lastH
            rw [decide_eq_true h0, getD_lt (by omega)]; rfl
          · rw [bifF (by rw [decide_eq_false (by omega)]; rfl), decide_eq_false h0]; rfl
      rw [hcond, bind_some]
      by_cases h8 : same = false ∧ alk row h = true
      · rw [if_pos h8, h8.1, h8.2]; rfl
      · rw [if_neg h8, bifF]
        cases same <;> simp_all
    · rw [bifT (by rw [decide_eq_false h7]; rfl), if_pos h7]; rfl
  · rw [bifT (by rw [decide_eq_false he]; rfl), if_pos he]; rfl
theorem nv_eq {p n : Nat} (hp : p ≤ 1000) (hn : n ≤ 1000) : w64 ((w64 (1 + (p : Int))) + (n : Int)) = ((1 + p + n : Nat) : Int) := by
  rw [show w64 (1 + (p : Int)) = ((1 + p : Nat) : Int) from w64_addN (a := 1) (by omega), w64_addN (by omega)]
theorem ref10Get_eq {row : List api_Hist} (hg : ∀ h ∈ row, GoodH h) (hrow : row.length ≤ 1000) {B : List Int} (hb : Bit B) (hB : B.length ≤ 1000000) :
    ref10_Get row B = some ⟨(getH row B).h, ((getH row B).n : Int), (getH row B).e⟩ := by
  have h1 := stBits_eq hb hB (k := 1) (q := 0) (e := 0) (by omega) (by omega)
  have h1' : ref10_State_bits ⟨B, 0, 0⟩ 1 = _ := h1
  have hq1 := rB_le (B := B) (k := 1) (q := 0) (e := 0) (by omega)
  unfold ref10_Get getH
  rw [h1', bind_some]
  dsimp only
  generalize rB B 1 0 0 = a at *
  rw [lett_eq]
  by_cases hv : a.v = 1
  · rw [show decide ((a.v : Int) = 1) = true from decide_eq_true (by omega)]
    by_cases h0 : row.length = 0
    · rw [bifT (by rw [decide_eq_true (by omega)]; rfl), if_pos ⟨hv, h0⟩]; rfl
    · have hla : row[row.length - 1]'(by omega) = lastH row := by unfold lastH; rw [getD_lt (by omega)]
      have hgl := hg _ (lastH_mem (row := row) (by omega))
      have hp := hgl.pl; have hn := hgl.nl
      have hal := allC_len (lastH row)
      rw [bifF (by rw [decide_eq_false (by omega)]; rfl), if_neg (fun h => h0 h.2), if_pos hv, cond_true, show w64 ((row.length : Int) - 1) = ((row.length - 1 : Nat) : Int) by rw [w64_id] <;> omega, idx_nat (by omega), bind_some, hla, all_eq (by omega) (by omega), bind_some, bind_some]
      dsimp only
      rw [lett_eq, nv_eq (by omega) (by omega)]
      have hlp := stCounts_loop hb hB (same := true) (was := allC (lastH row)) (N := 1 + (lastH row).Pos.Counts.length + (lastH row).Neg.Counts.length) (by omega) (fun _ => hal) _ 0 a.q a.e [] (Nat.zero_add _) hq1 rfl
      rw [if_pos rfl, List.drop_zero, List.nil_append] at hlp
      have hlp' : loop (ref10_Get_lp1 true (allC (lastH row)) ((1 + (lastH row).Pos.Counts.length + (lastH row).Neg.Counts.length : Nat) : Int)) (B, (a.q : Int), a.e, [], 0) = _ := hlp
      rw [hlp', flow_go, bind_some]
      dsimp only
      have hI := hgl.s
      have hl := rC_len B ((allC (lastH row)).map some) a.q a.e
      rw [List.length_map, hal] at hl
      exact refTail (same := true) hrow (by unfold I64; omega) hgl.po hgl.no hl (by omega) (by omega)
  · rw [show decide ((a.v : Int) = 1) = false from decide_eq_false (by omega)]
    have h2 := stBits_eq hb hB (k := 5) (e := a.e) (by omega) hq1
    have h2' : ref10_State_bits ⟨B, (a.q : Int), a.e⟩ 5 = _ := h2
    have hq2 := rB_le (k := 5) (e := a.e) hq1
    have hl2 := rB_lt hb (k := 5) (q := a.q) (e := a.e)
    rw [bifF (by rfl), if_neg (fun h => hv h.1), if_neg hv, cond_false, h2', bind_some]
    dsimp only
    generalize rB B 5 a.q a.e = b at *
    have hp := stSide_eq hb hB (e := b.e) hq2
    have hq3 := rSide_le hb (e := b.e) hq2
    have hs3 := rSide_len B hb b.q b.e
    have ho3 := rSide_off hb b.q b.e
    rw [lett_eq, hp, bind_some]
    dsimp only
    generalize rSide B b.q b.e = p at *
    have hn := stSide_eq hb hB (e := p.e) hq3
    have hq4 := rSide_le hb (e := p.e) hq3
    have hs4 := rSide_len B hb p.q p.e
    have ho4 := rSide_off hb p.q p.e
    rw [hn, bind_some]
    dsimp only
    generalize rSide B p.q p.e = n at *
    rw [bind_some]
    dsimp only
    rw [lett_eq, nv_eq (by omega) (by omega)]
    have hlp := stCounts_loop hb hB (same := false) (was := []) (N := 1 + p.s.Counts.length + n.s.Counts.length) (by omega) (fun h => by cases h) _ 0 n.q n.e [] (Nat.zero_add _) hq4 rfl
    rw [if_neg (by simp), List.nil_append] at hlp
    have hlp' : loop (ref10_Get_lp1 false [] ((1 + p.s.Counts.length + n.s.Counts.length : Nat) : Int)) (B, (n.q : Int), n.e, [], 0) = _ := hlp
    rw [hlp', flow_go, bind_some]
    dsimp only
    have hsc : w64 ((b.v : Int) - 10) = (b.v : Int) - 10 := by rw [w64_id] <;> omega
    rw [hsc]
    have hl := rC_len B (List.replicate (1 + p.s.Counts.length + n.s.Counts.length) none) n.q n.e
    rw [List.length_replicate] at hl
    exact refTail (same := false) hrow (by unfold I64; omega) ho3 ho4 hl (by omega) (by omega)
end Go.Lg
