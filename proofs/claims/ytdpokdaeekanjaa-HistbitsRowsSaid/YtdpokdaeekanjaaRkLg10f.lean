/- Law 10: what the program reads, put together. -/
import Derived.Test.YtdpokdaeekanjaaRkLg10e
set_option linter.unusedVariables false
namespace Go.Lg
attribute [local irreducible] w64 toU64 toU8 shlU shrU shlB shrB
def tlR (h : api_Hist) (q : Nat) (e : Int) : HR := if e ≠ 0 then ⟨H0, 0, e⟩ else if histE h ≠ 0 then ⟨H0, 0, histE h⟩ else ⟨h, q, 0⟩
theorem getTailP {x : histbits_Row} {row : List api_Hist} (hx : HS x row) (hrow : row.length ≤ 1000) {r : bitio_Reader} {A : List Int} {p : Nat} (hr : RA r A p) {r2 : bitio_Reader} {q : Nat} (hr2 : RA r2 A (p + q)) {h : api_Hist} (ok : OkH h) (e : Int) :
    ∃ x' r', ((bif decide (e = 0) then
 (hist_Check h).bind fun r2590 =>
 some r2590
 else
 some e : Option Int).bind fun c2567 =>
 bif (!decide (c2567 = 0)) then
 some ((api_Hist.mk 0 0 (api_Side.mk 0 []) (api_Side.mk 0 [])), c2567, x, r)
 else
 (bitio_Reader_At (bitio_Reader.mk r2.b r2.n r2.at_)).bind fun r2705 =>
 (bitio_Reader_At r).bind fun r2731 =>
 (bitio_Reader_Skip r (w64 (r2705 - r2731))).bind fun (r2742, r2743) =>
 lett (w64 (x.n + 1)) fun t2769 =>
 (hist_Clone h).bind fun r2788 =>
 some (h, 0, (histbits_Row.mk t2769 r2788), r2743)) = some ((tlR h q e).h, (tlR h q e).e, x', r') ∧ RA r' A (p + (tlR h q e).n) ∧
      ((tlR h q e).e = 0 → HS x' (row ++ [(tlR h q e).h])) ∧ ((tlR h q e).e ≠ 0 → x' = x ∧ r' = r ∧ (tlR h q e).h = H0 ∧ (tlR h q e).n = 0) := by
  have hlen := hr.len; have hsm := hr.small
  unfold tlR
  by_cases he : e = 0
  · rw [bifT (by rw [decide_eq_true he]), Check_eq ok, bind_some, bind_some, if_neg (by simpa using he)]
    by_cases h1 : histE h = 0
    · have g := goodH_of ok h1
      have hp := g.pl; have hn := g.nl
      have hat : bitio_Reader_At ⟨r2.b, r2.n, r2.at_⟩ = _ := hr2.at'
      have hle2 := hr2.le
      obtain ⟨r', s1, s2, _⟩ := hr.skip (k := q) (by omega)
      rw [bifF (by rw [decide_eq_true h1]; rfl), if_neg (by simpa using h1), hat, bind_some, hr.at', bind_some, show w64 (((p + q : Nat) : Int) - (p : Int)) = (q : Int) by rw [w64_subN (by omega) (by omega)]; congr 1; omega, s1, bind_some]
      dsimp only
      rw [lett_eq, clone_hist (by omega) (by omega), bind_some]
      refine ⟨_, _, rfl, s2, fun _ => ⟨?_, ?_, ?_⟩, fun h => absurd rfl h⟩
      · dsimp only; rw [hx.n, w64_succ (by omega), List.length_append]; rfl
      · dsimp only; rw [lastH_snoc]
      · intro y hy
        rcases List.mem_append.1 hy with hm | hm
        · exact hx.good y hm
        · rw [List.mem_singleton.1 hm]; exact g
    · rw [bifT (by rw [decide_eq_false h1]; rfl), if_pos h1]
      exact ⟨x, r, rfl, hr, fun h => absurd h h1, fun _ => ⟨rfl, rfl, rfl, rfl⟩⟩
  · rw [bifF (by rw [decide_eq_false he]), bind_some, if_pos he, bifT (by rw [decide_eq_false he]; rfl)]
    exact ⟨x, r, rfl, hr, fun h => absurd h he, fun _ => ⟨rfl, rfl, rfl, rfl⟩⟩
def e3 (row : List api_Hist) (h : api_Hist) (e : Int) : Int := if (if e = 0 then histE h else e) = 0 ∧ alk row h = true then 3 else (if e = 0 then histE h else e)
theorem getT_true (row : List api_Hist) (sc po : Int) (pl : Nat) (no : Int) (r : SC) : getT true row sc po pl no r = tlR (mkH sc po pl no r.l) r.q r.e := by
  unfold getT tlR
  simp
theorem getT_false (row : List api_Hist) (sc po : Int) (pl : Nat) (no : Int) (r : SC) : getT false row sc po pl no r = tlR (mkH sc po pl no r.l) r.q (e3 row (mkH sc po pl no r.l) r.e) := by
  unfold getT tlR e3
  generalize mkH sc po pl no r.l = h
  generalize r.e = e
  by_cases he : e = 0
  · by_cases h1 : histE h = 0
    · by_cases h2 : alk row h = true
      · simp [he, h1, h2]
      · simp [he, h1, h2]
    · simp [he, h1]
  · simp [he]
theorem mkH_eq (sc po : Int) (pl : Nat) (no : Int) {z : UInt64} {ps ns : List UInt64} (h : ps.length = pl) : mkH sc po pl no (z :: (ps ++ ns)) = ⟨sc, z, ⟨po, ps⟩, ⟨no, ns⟩⟩ := by
  unfold mkH
  subst h
  rw [show (z :: (ps ++ ns)).getD 0 0 = z from rfl, show (z :: (ps ++ ns)).drop 1 = ps ++ ns from rfl, List.take_left, Nat.add_comm 1, List.drop_succ_cons, List.drop_left]
theorem alike_p {x : histbits_Row} {row : List api_Hist} (hx : HS x row) (h : api_Hist) (e : Int) :
    ((bif ((decide (e = 0)) && (decide (0 < x.n))) then
 (histbits_of h).bind fun r2424 =>
 (histbits_of x.last).bind fun r2469 =>
 some (decide (r2424.scale = r2469.scale) && (decide (r2424.posAt = r2469.posAt) && (decide (r2424.posSize = r2469.posSize) && (decide (r2424.negAt = r2469.negAt) && (decide (r2424.negSize = r2469.negSize) && true)))))
 else
 some false) : Option Bool) = some (decide (e = 0) && alk row h) := by
  unfold alk
  by_cases he : e = 0
  · by_cases h0 : 0 < row.length
    · rw [bifT (by rw [decide_eq_true he, decide_eq_true (by rw [hx.n]; omega)]; rfl), decide_eq_true h0, decide_eq_true he, Bool.true_and, Bool.true_and]
      unfold histbits_of
      rw [bind_some, bind_some, hx.last, ← of_eq]
    · rw [bifF (by rw [decide_eq_false (p := 0 < x.n) (by rw [hx.n]; omega), Bool.and_false]), decide_eq_false h0, Bool.false_and, Bool.and_false]
  · rw [bifF (by rw [decide_eq_false he]; rfl), decide_eq_false he, Bool.false_and]
theorem rC_three (B : List Int) (o : Option UInt64) (os ps : List (Option UInt64)) (q : Nat) (e : Int) : rC B (o :: (os ++ ps)) q e =
    ⟨val o (rS B q e).v :: ((rC B os (rS B q e).q (rS B q e).e).l ++ (rC B ps (rC B os (rS B q e).q (rS B q e).e).q (rC B os (rS B q e).q (rS B q e).e).e).l), (rC B ps (rC B os (rS B q e).q (rS B q e).e).q (rC B os (rS B q e).q (rS B q e).e).e).q, (rC B ps (rC B os (rS B q e).q (rS B q e).e).q (rC B os (rS B q e).q (rS B q e).e).e).e⟩ := by
  simp only [rC, rC_app]
theorem HS.get {x : histbits_Row} {row : List api_Hist} (hx : HS x row) (hrow : row.length ≤ 1000) {r : bitio_Reader} {A : List Int} {p : Nat} (hr : RA r A p) :
    ∃ x' r', histbits_Row_Get x r = some ((getH row (A.drop p)).h, (getH row (A.drop p)).e, x', r') ∧ RA r' A (p + (getH row (A.drop p)).n) ∧
      ((getH row (A.drop p)).e = 0 → HS x' (row ++ [(getH row (A.drop p)).h])) ∧ ((getH row (A.drop p)).e ≠ 0 → x' = x ∧ r' = r ∧ (getH row (A.drop p)).h = H0 ∧ (getH row (A.drop p)).n = 0) := by
  have hb := hr.bit.drop p
  obtain ⟨r1, f1, f2⟩ := rdB (q := 0) hr (k := 1) (by omega) 0
  have f1' : (bif (!decide (0 = 0)) then some (r.b, r.n, r.at_, 0, 0) else
      (bitio_Reader_Take r 1).bind fun (r115, r116, r117) =>
 bif (!r116) then
 lett (w64 (r115.toNat : Int)) fun t136 =>
 some (r117.b, r117.n, r117.at_, 2, t136)
 else
 lett (w64 (r115.toNat : Int)) fun t139 =>
 some (r117.b, r117.n, r117.at_, 0, t139) : Option (List UInt8 × Int × Int × Int × Int)) = _ := f1
  unfold histbits_Row_Get getH
  rw [f1', bind_some]
  dsimp only
  clear f1 f1'
  generalize rB (A.drop p) 1 0 0 = a at *
  by_cases hv : a.v = 1
  · rw [bifTd (by omega)]
    by_cases h0 : row.length = 0
    · rw [bifTd (by rw [hx.n]; omega), if_pos ⟨hv, h0⟩, outs_some, flow_out]
      exact ⟨x, r, rfl, hr, fun h => absurd h (by decide), fun _ => ⟨rfl, rfl, rfl, rfl⟩⟩
    · have hgl := hx.good _ (lastH_mem (row := row) (by omega))
      have hp := hgl.pl; have hn := hgl.nl
      have hal := allC_len (lastH row)
      rw [bifFd (by rw [hx.n]; omega), if_neg (fun h => h0 h.2), if_pos hv, hx.last, clone_hist (by omega) (by omega), bind_some, counts_eq (by omega) (by omega), bind_some]
      obtain ⟨r2, g1, g2⟩ := oneD f2 a.e (was := allC (lastH row)) (j := 0) (by omega) (by omega)
      obtain ⟨r3, g3, g4⟩ := lp1_eq (h := lastH row) (was := allC (lastH row)) (by omega) (by omega) _ 0 _ (rS (A.drop p) a.q a.e).e (lastH row).Pos.Counts r2 (Nat.zero_add _) g2 rfl
      have e0 : ((0 : Nat) : Int) = 0 := rfl
      rw [Nat.zero_add, e0] at g1
      rw [Nat.add_zero, e0, List.take_zero, List.nil_append] at g3
      rw [Nat.add_zero] at g4
      obtain ⟨r4, g5, g6⟩ := lp2_eq (h := lastH row) (was := allC (lastH row)) (o := 1 + (lastH row).Pos.Counts.length) (by omega) (by omega) _ 0 _ (rC (A.drop p) (List.map some (List.take (lastH row).Pos.Counts.length (List.drop 1 (allC (lastH row))))) (rS (A.drop p) a.q a.e).q (rS (A.drop p) a.q a.e).e).e (lastH row).Neg.Counts r3 (Nat.zero_add _) g4 rfl
      rw [Nat.add_zero, e0, List.take_zero, List.nil_append] at g5
      rw [Nat.add_zero] at g6
      have hsplit : (allC (lastH row)).map some = some ((allC (lastH row))[0]'(by omega)) :: (((allC (lastH row)).drop 1).take (lastH row).Pos.Counts.length).map some ++ (((allC (lastH row)).drop (1 + (lastH row).Pos.Counts.length)).take (lastH row).Neg.Counts.length).map some := by
        unfold allC
        rw [Nat.add_comm 1, List.drop_succ_cons, List.drop_succ_cons, List.drop_zero, List.take_left, List.drop_left, List.take_length]
        simp
      rw [g1, bind_some]
      dsimp only
      rw [g3, flow_go]
      dsimp only
      rw [bind_some]
      dsimp only
      rw [g5, flow_go]
      dsimp only
      rw [bind_some]
      dsimp only
      rw [flow_go]
      dsimp only
      rw [getT_true, hsplit, List.cons_append, rC_three]
      dsimp only
      generalize rS (A.drop p) a.q a.e = s at *
      have hl3 := rC_len (A.drop p) (((allC (lastH row)).drop 1).take (lastH row).Pos.Counts.length |>.map some) s.q s.e
      rw [List.length_map, List.length_take, List.length_drop, hal] at hl3
      generalize rC (A.drop p) (((allC (lastH row)).drop 1).take (lastH row).Pos.Counts.length |>.map some) s.q s.e = u at *
      have hl4 := rC_len (A.drop p) (((allC (lastH row)).drop (1 + (lastH row).Pos.Counts.length)).take (lastH row).Neg.Counts.length |>.map some) u.q u.e
      rw [List.length_map, List.length_take, List.length_drop, hal] at hl4
      generalize rC (A.drop p) (((allC (lastH row)).drop (1 + (lastH row).Pos.Counts.length)).take (lastH row).Neg.Counts.length |>.map some) u.q u.e = w at *
      rw [mkH_eq _ _ _ _ (by rw [hl3]; omega)]
      have hI := hgl.s
      exact getTailP hx hrow hr g6 (h := ⟨(lastH row).Scale, val (some ((allC (lastH row))[0]'(by omega))) s.v, ⟨(lastH row).Pos.Offset, u.l⟩, ⟨(lastH row).Neg.Offset, w.l⟩⟩) ⟨by show I64 (lastH row).Scale; unfold I64; omega, hgl.po, hgl.no, by dsimp only; omega, by dsimp only; omega⟩ _
  · obtain ⟨r2, g1, g2⟩ := rdB f2 (k := 5) (by omega) a.e
    have g1' : (bif (!decide (a.e = 0)) then some (r1.b, r1.n, r1.at_, a.e, 0) else
      (bitio_Reader_Take (bitio_Reader.mk r1.b r1.n r1.at_) 5).bind fun (r1029, r1030, r1031) =>
 bif (!r1030) then
 lett (w64 (r1029.toNat : Int)) fun t1050 =>
 some (r1031.b, r1031.n, r1031.at_, 2, t1050)
 else
 lett (w64 (r1029.toNat : Int)) fun t1053 =>
 some (r1031.b, r1031.n, r1031.at_, a.e, t1053) : Option (List UInt8 × Int × Int × Int × Int)) = _ := g1
    have hl2 := rB_lt hb (k := 5) (q := a.q) (e := a.e)
    rw [bifFd (by omega), if_neg (fun h => hv h.1), if_neg hv, g1', bind_some]
    dsimp only
    clear g1 g1'
    generalize rB (A.drop p) 5 a.q a.e = b at *
    have hsc : w64 ((b.v : Int) + (-10)) = (b.v : Int) - 10 := by rw [w64_id] <;> omega
    rw [lett_eq, hsc]
    clear hsc
    obtain ⟨r3, g3, g4⟩ := rdSide g2 b.e
    have hs3 := rSide_len (A.drop p) hb b.q b.e
    have ho3 := rSide_off hb b.q b.e
    rw [g3, bind_some]
    dsimp only
    clear g3
    generalize rSide (A.drop p) b.q b.e = P at *
    obtain ⟨r4, g5, g6⟩ := rdSide g4 P.e
    have hs4 := rSide_len (A.drop p) hb P.q P.e
    have ho4 := rSide_off hb P.q P.e
    rw [g5, bind_some]
    dsimp only
    clear g5
    generalize rSide (A.drop p) P.q P.e = N at *
    have e0 : ((0 : Nat) : Int) = 0 := rfl
    obtain ⟨r5, g7, g8⟩ := oneF g6 N.e (j := 0) (by omega)
    rw [Nat.zero_add, e0] at g7
    obtain ⟨r6, k3, k4⟩ := lp3_eq (N := P.s.Counts.length) (by omega) (o := 1) (by omega) (ys := P.s.Counts) rfl _ 0 _ (rS (A.drop p) N.q N.e).e P.s.Counts r5 (Nat.zero_add _) g8 rfl
    rw [Nat.add_zero, e0, List.take_zero, List.nil_append] at k3
    obtain ⟨r7, k5, k6⟩ := lp4_eq (N := N.s.Counts.length) (by omega) (o := 1 + P.s.Counts.length) (by omega) (ys := N.s.Counts) rfl _ 0 _ (rC (A.drop p) (List.replicate P.s.Counts.length none) (rS (A.drop p) N.q N.e).q (rS (A.drop p) N.q N.e).e).e N.s.Counts r6 (Nat.zero_add _) k4 rfl
    rw [Nat.add_zero, e0, List.take_zero, List.nil_append] at k5
    have hsplit : (List.replicate (1 + P.s.Counts.length + N.s.Counts.length) none : List (Option UInt64)) = none :: (List.replicate P.s.Counts.length none ++ List.replicate N.s.Counts.length none) := by
      rw [List.replicate_append_replicate, ← List.replicate_succ]; congr 1; omega
    rw [g7, bind_some]
    dsimp only
    rw [k3, flow_go]
    dsimp only
    rw [bind_some]
    dsimp only
    rw [k5, flow_go]
    dsimp only
    rw [bind_some]
    dsimp only
    rw [getT_false, hsplit, rC_three]
    dsimp only
    clear g7 k3 k5 hsplit
    generalize rS (A.drop p) N.q N.e = s at *
    have hl3 := rC_len (A.drop p) (List.replicate P.s.Counts.length none) s.q s.e
    rw [List.length_replicate] at hl3
    generalize rC (A.drop p) (List.replicate P.s.Counts.length none) s.q s.e = u at *
    have hl4 := rC_len (A.drop p) (List.replicate N.s.Counts.length none) u.q u.e
    rw [List.length_replicate] at hl4
    generalize rC (A.drop p) (List.replicate N.s.Counts.length none) u.q u.e = w at *
    rw [mkH_eq _ _ _ _ hl3]
    have ok : OkH ⟨(b.v : Int) - 10, val none s.v, ⟨P.s.Offset, u.l⟩, ⟨N.s.Offset, w.l⟩⟩ := ⟨by show I64 ((b.v : Int) - 10); unfold I64; omega, ho3, ho4, by dsimp only; omega, by dsimp only; omega⟩
    generalize hh : (⟨(b.v : Int) - 10, val none s.v, ⟨P.s.Offset, u.l⟩, ⟨N.s.Offset, w.l⟩⟩ : api_Hist) = h at *
    have hck : (bif decide (w.e = 0) then (hist_Check h).bind fun r2286 => some r2286 else some w.e : Option Int) = some (if w.e = 0 then histE h else w.e) := by
      by_cases he : w.e = 0
      · rw [bifT (by rw [decide_eq_true he]), Check_eq ok, bind_some, if_pos he]
      · rw [bifF (by rw [decide_eq_false he]), if_neg he]
    rw [hck, bind_some, alike_p hx h, bind_some]
    have hfin : (bif (decide ((if w.e = 0 then histE h else w.e) = 0) && alk row h) then
 some (.go (r7.b, r7.n, r7.at_, 3, (b.v : Int) - 10, val none s.v, P.s.Offset, u.l, N.s.Offset, w.l))
 else
 some (.go (r7.b, r7.n, r7.at_, (if w.e = 0 then histE h else w.e), (b.v : Int) - 10, val none s.v, P.s.Offset, u.l, N.s.Offset, w.l)) : Option (Flow (List UInt8 × Int × Int × Int × Int × UInt64 × Int × List UInt64 × Int × List UInt64) (api_Hist × Int × histbits_Row × bitio_Reader))) =
        some (.go (r7.b, r7.n, r7.at_, e3 row h w.e, (b.v : Int) - 10, val none s.v, P.s.Offset, u.l, N.s.Offset, w.l)) := by
      unfold e3
      by_cases hc : (if w.e = 0 then histE h else w.e) = 0 ∧ alk row h = true
      · rw [if_pos hc, bifT (by rw [decide_eq_true hc.1, hc.2]; rfl)]
      · rw [if_neg hc, bifF]
        rw [Bool.and_eq_false_iff, decide_eq_false_iff_not]
        by_cases h1 : (if w.e = 0 then histE h else w.e) = 0
        · exact .inr (by simpa using fun h2 => hc ⟨h1, h2⟩)
        · exact .inl h1
    rw [hfin, flow_go]
    dsimp only
    rw [hh]
    exact getTailP hx hrow hr k6 ok _
end Go.Lg
