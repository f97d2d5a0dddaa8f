/- Law 10: HistbitsRows. -/
import Derived.Test.YtdpokdaeekanjaaRkLg10g
set_option linter.unusedVariables false
namespace Go.Lg
attribute [local irreducible] w64 toU64 toU8 shlU shrU shlB shrB
/-- the bits of a row's first ones -/
def hB (row : List api_Hist) : Nat → List Int
  | 0 => []
  | k + 1 => hB row k ++ hiB (row.take k) (row.getD k H0)
theorem hB_snoc (row : List api_Hist) (h : api_Hist) : ∀ k, k ≤ row.length → hB (row ++ [h]) k = hB row k
  | 0, _ => rfl
  | k + 1, hk => by
    rw [hB, hB, hB_snoc row h k (by omega), List.take_append_of_le_length (by omega)]
    congr 2
    rw [getD_lt (by simp; omega), getD_lt (by omega), List.getElem_append_left]
theorem hB_next (row : List api_Hist) (h : api_Hist) : hB (row ++ [h]) (row ++ [h]).length = hB row row.length ++ hiB row h := by
  rw [List.length_append, List.length_singleton, hB, hB_snoc row h _ (Nat.le_refl _), List.take_left, getD_lt (by simp)]
  simp
structure Rt (row : List api_Hist) : Prop where
  ok : ∀ h ∈ row, OkH h ∧ histE h = 0
theorem hClone {x : histbits_Row} {row : List api_Hist} (hx : HS x row) : histbits_Row_Clone x = some x := by
  have g := hx.lastGood
  have hp := g.pl; have hn := g.nl
  unfold histbits_Row_Clone
  rw [hx.last, clone_hist (by omega) (by omega), bind_some, ← hx.last]
theorem put_any {x : histbits_Row} {row : List api_Hist} (hx : HS x row) (hr : row.length ≤ 1000) {h : api_Hist} (o : OkH h) : ∃ p, histbits_Row_Put x ⟨[], 0⟩ h = some p := by
  by_cases he : histE h = 0
  · obtain ⟨x', w', e, _, _⟩ := hx.put hr o he WR.new (by simp)
    exact ⟨_, e⟩
  · exact ⟨_, HS.putNo o he _⟩
theorem rows10_put (l : List api_Hist) (hl : ∀ h ∈ l, OkH h) (hn : l.length ≤ 30) (a1 : api_Hist) (o1 : OkH a1) : ∀ (m i : Nat) (w : bitio_Writer) (x : histbits_Row) (row : List api_Hist), i + m = l.length → row.length ≤ i → WR w (hB row row.length) → (hB row row.length).length ≤ 21500 * i → HS x row → Rt row →
    ∃ w' row', loop (law10_HistbitsRows_lp1 l a1) (w.b, w.n, x.n, x.last.Scale, x.last.Zero, x.last.Pos.Offset, x.last.Pos.Counts, x.last.Neg.Offset, x.last.Neg.Counts, hB row row.length, row, (i : Int)) = some (.go (w'.b, w'.n, hB row' row'.length, row')) ∧ WR w' (hB row' row'.length) ∧ row'.length ≤ 30 ∧ Rt row'
  | 0, i, w, x, row, hi, hrow, hw, hlen, hx, hrt => by
    refine ⟨w, row, loop_brk ?_, hw, by omega, hrt⟩
    unfold law10_HistbitsRows_lp1
    dsimp only
    rw [bifFd (by omega)]
  | m + 1, i, w, x, row, hi, hrow, hw, hlen, hx, hrt => by
    have hlt : i < l.length := by omega
    have o := hl _ (List.getElem_mem hlt)
    obtain ⟨z, hz⟩ := put_any hx (by omega) o1
    obtain ⟨z1, z2, z3⟩ := z
    have hcl : histbits_Row_Clone ⟨x.n, ⟨x.last.Scale, x.last.Zero, ⟨x.last.Pos.Offset, x.last.Pos.Counts⟩, ⟨x.last.Neg.Offset, x.last.Neg.Counts⟩⟩⟩ = _ := hClone hx
    by_cases he : histE l[i] = 0
    · obtain ⟨x1, w1, p1, s1, r1⟩ := hx.put (by omega) o he hw (by omega)
      have p1' : histbits_Row_Put ⟨x.n, ⟨x.last.Scale, x.last.Zero, ⟨x.last.Pos.Offset, x.last.Pos.Counts⟩, ⟨x.last.Neg.Offset, x.last.Neg.Counts⟩⟩⟩ ⟨w.b, w.n⟩ l[i] = _ := p1
      have hle := hiB_len row (goodH_of o he)
      rw [← hB_next] at r1
      have hlen2 : (hB (row ++ [l[i]]) (row ++ [l[i]]).length).length = (hB row row.length).length + (hiB row l[i]).length := by rw [hB_next, List.length_append]
      obtain ⟨w2, row2, q1, q2, q3, q4⟩ := rows10_put l hl hn a1 o1 m (i + 1) w1 x1 (row ++ [l[i]]) (by omega) (by rw [List.length_append, List.length_singleton]; omega) r1 (by omega) s1
        ⟨fun y hy => by
          rcases List.mem_append.1 hy with hm | hm
          · exact hrt.ok y hm
          · rw [List.mem_singleton.1 hm]; exact ⟨o, he⟩⟩
      refine ⟨w2, row2, ?_, q2, q3, q4⟩
      rw [← q1]
      refine loop_next ?_
      have g1 := r1.len
      have g2 : histbits_Row_Len x1 = some ((row ++ [l[i]]).length : Int) := by unfold histbits_Row_Len; rw [s1.n]
      unfold law10_HistbitsRows_lp1
      dsimp only
      rw [bifTd (by omega), hcl, bind_some, show bitio_NewWriter = some ⟨[], 0⟩ from rfl, bind_some, hz, bind_some]
      rw [idx_nat hlt, bind_some, p1', bind_some]
      dsimp only
      rw [bind_some, RCheck_eq o, bind_some, he, bifF (by rfl), bifTd rfl, bind_some, refPut10_eq (goodH_of o he) (by omega), bind_some, app_ok (by omega), bind_some, bind_some, app_ok (by simp; omega), bind_some, bind_some]
      dsimp only
      rw [← hB_next, g1, bind_some, bifF (by simp), g2, bind_some, bind_some, bifF (by simp), flow_go]
      dsimp only
      rw [lett_eq, w64_succ (by omega)]
    · have p1 := HS.putNo (x := x) o he w
      have p1' : histbits_Row_Put ⟨x.n, ⟨x.last.Scale, x.last.Zero, ⟨x.last.Pos.Offset, x.last.Pos.Counts⟩, ⟨x.last.Neg.Offset, x.last.Neg.Counts⟩⟩⟩ ⟨w.b, w.n⟩ l[i] = _ := p1
      obtain ⟨w2, row2, q1, q2, q3, q4⟩ := rows10_put l hl hn a1 o1 m (i + 1) w x row (by omega) (by omega) hw (by omega) hx hrt
      refine ⟨w2, row2, ?_, q2, q3, q4⟩
      rw [← q1]
      refine loop_next ?_
      have g1 := hw.len
      have g2 : histbits_Row_Len x = some (row.length : Int) := by unfold histbits_Row_Len; rw [hx.n]
      unfold law10_HistbitsRows_lp1
      dsimp only
      rw [bifTd (by omega), hcl, bind_some, show bitio_NewWriter = some ⟨[], 0⟩ from rfl, bind_some, hz, bind_some]
      rw [idx_nat hlt, bind_some, p1', bind_some]
      dsimp only
      rw [bind_some, RCheck_eq o, bind_some, bifF (by simp), bifFd he, bind_some]
      dsimp only
      rw [g1, bind_some, bifF (by simp), g2, bind_some, bind_some, bifF (by simp), flow_go]
      dsimp only
      rw [lett_eq, w64_succ (by omega)]
theorem rows10_77 (l : List UInt64) (h : l.length ≤ 1000000) : loop law10_HistbitsRows_lp3 (l, 0) = some (.go ()) := by
  have : ∀ (m i : Nat) (xs : List UInt64), i + m = xs.length → xs.length ≤ 1000000 → loop law10_HistbitsRows_lp3 (xs, (i : Int)) = some (.go ()) := by
    intro m
    induction m with
    | zero =>
      intro i xs hi hx
      refine loop_brk ?_
      unfold law10_HistbitsRows_lp3
      dsimp only
      rw [bifFd (by omega)]
    | succ m ih =>
      intro i xs hi hx
      have hlt : i < xs.length := by omega
      rw [← ih (i + 1) (xs.set i 77) (by simp; omega) (by simpa using hx)]
      refine loop_next ?_
      unfold law10_HistbitsRows_lp3
      dsimp only
      rw [bifTd (by omega), idx_nat hlt, bind_some, setI_nat hlt, bind_some, lett_eq, w64_succ (by omega)]
  exact this l.length 0 l (by omega) h
theorem hB_pre (row : List api_Hist) : ∀ m i, i + m = row.length → ∃ rest, hB row row.length = hB row i ++ rest
  | 0, i, hi => by obtain rfl : i = row.length := by omega
                   exact ⟨[], by simp⟩
  | m + 1, i, hi => by
    obtain ⟨rest, h⟩ := hB_pre row m (i + 1) (by omega)
    exact ⟨_, by rw [h, hB, List.append_assoc]⟩
theorem rows10_get (row : List api_Hist) (hrt : Rt row) (hn : row.length ≤ 30) : ∀ (m i : Nat) (r : bitio_Reader) (x : histbits_Row), i + m = row.length → RA r (hB row row.length) (hB row i).length → HS x (row.take i) →
    ∃ r', loop (law10_HistbitsRows_lp2 row) (x.n, x.last.Scale, x.last.Zero, x.last.Pos.Offset, x.last.Pos.Counts, x.last.Neg.Offset, x.last.Neg.Counts, r.b, r.n, r.at_, (i : Int)) = some (.go (r'.b, r'.n, r'.at_)) ∧ RA r' (hB row row.length) (hB row row.length).length
  | 0, i, r, x, hi, hr, hx => by
    obtain rfl : i = row.length := by omega
    refine ⟨r, loop_brk ?_, hr⟩
    unfold law10_HistbitsRows_lp2
    dsimp only
    rw [bifFd (by omega)]
  | m + 1, i, r, x, hi, hr, hx => by
    have hlt : i < row.length := by omega
    obtain ⟨o, he⟩ := hrt.ok _ (List.getElem_mem hlt)
    obtain ⟨rest, hrest⟩ := hB_pre row m (i + 1) (by omega)
    have hdrop : (hB row row.length).drop (hB row i).length = hiB (row.take i) row[i] ++ rest := by
      rw [hrest, hB, List.append_assoc, drop_app rfl, getD_lt hlt]
    obtain ⟨x', r', g1, g2, g3, g4⟩ := hx.get (by rw [List.length_take]; omega) hr
    rw [hdrop, getH_put o he] at g1 g2 g3
    dsimp only at g1 g2 g3
    have g3' := g3 rfl
    rw [← List.take_succ_eq_append_getElem hlt] at g3'
    have g2' : RA r' (hB row row.length) (hB row (i + 1)).length := by
      have : (hB row (i + 1)).length = (hB row i).length + (hiB (row.take i) row[i]).length := by rw [hB, List.length_append, getD_lt hlt]
      rw [this]; exact g2
    obtain ⟨r2, h1, h2⟩ := rows10_get row hrt hn m (i + 1) r' x' (by omega) g2' g3'
    refine ⟨r2, ?_, h2⟩
    rw [← h1]
    refine loop_next ?_
    have g1' : histbits_Row_Get ⟨x.n, ⟨x.last.Scale, x.last.Zero, ⟨x.last.Pos.Offset, x.last.Pos.Counts⟩, ⟨x.last.Neg.Offset, x.last.Neg.Counts⟩⟩⟩ ⟨r.b, r.n, r.at_⟩ = _ := g1
    unfold law10_HistbitsRows_lp2
    dsimp only
    rw [bifTd (by omega), g1', bind_some]
    dsimp only
    rw [bifF (by rfl), idx_nat hlt, bind_some, same_self o.pl o.nl, bind_some, bind_some, bifF (by rfl), rows10_77 _ o.pl, flow_go, bind_some, lett_eq, w64_succ (by omega)]
theorem histbitsRows (a0 : List api_Hist) (a1 : api_Hist) (h0 : ∀ h ∈ a0, Is h) (h1 : Is a1) : law10_HistbitsRows a0 a1 = some true := by
  unfold law10_HistbitsRows
  rw [awake10, bind_some, bifF (by rfl)]
  obtain ⟨t, t1, t2⟩ := some10_eq a0
  rw [t1, bind_some]
  have hcond : (bif (!t) then some true else (ref08_Light a1).bind fun r64 => some (!r64) : Option Bool) = some (!(t && (decide ((a1.Pos.Counts.length : Int) ≤ 300) && decide ((a1.Neg.Counts.length : Int) ≤ 300)))) := by
    rw [light_eq, bind_some]; cases t <;> rfl
  rw [hcond, bind_some]
  by_cases hc : t = true ∧ (a1.Pos.Counts.length : Int) ≤ 300 ∧ (a1.Neg.Counts.length : Int) ≤ 300
  · obtain ⟨hn, hl⟩ := t2 hc.1
    have o1 := h1.ok hc.2.1 hc.2.2
    have hok : ∀ h ∈ a0, OkH h := fun h hm => (h0 h hm).ok (by have := (hl h hm).1; omega) (by have := (hl h hm).2; omega)
    rw [bifF (by rw [hc.1, decide_eq_true hc.2.1, decide_eq_true hc.2.2]; rfl)]
    obtain ⟨w, row, u1, u2, u3, u4⟩ := rows10_put a0 hok hn a1 o1 a0.length 0 ⟨[], 0⟩ ⟨0, H0⟩ [] (by omega) (by simp) WR.new (by simp [hB]) HS.new ⟨fun h hm => by simp at hm⟩
    have u1' : loop (law10_HistbitsRows_lp1 a0 a1) ([], 0, 0, H0.Scale, H0.Zero, H0.Pos.Offset, H0.Pos.Counts, H0.Neg.Offset, H0.Neg.Counts, [], [], 0) = _ := u1
    obtain ⟨n1, n2⟩ := RA.of u2
    obtain ⟨r, v1, v2⟩ := rows10_get row u4 u3 row.length 0 _ ⟨0, H0⟩ (by omega) n2 (by simpa using HS.new)
    have v1' : loop (law10_HistbitsRows_lp2 row) (0, H0.Scale, H0.Zero, H0.Pos.Offset, H0.Pos.Counts, H0.Neg.Offset, H0.Neg.Counts, w.b, ((hB row row.length).length : Int), 0, 0) = _ := v1
    rw [show bitio_NewWriter = some ⟨[], 0⟩ from rfl, bind_some, show histbits_NewRow = some ⟨0, H0⟩ from rfl, bind_some]
    dsimp only
    rw [u1', flow_go]
    dsimp only
    rw [flow_go]
    dsimp only
    have g1 : bitio_Writer_Len ⟨w.b, w.n⟩ = _ := u2.len
    have g2 : bitio_Writer_Bytes ⟨w.b, w.n⟩ = _ := u2.bytes
    rw [g2, bind_some, u2.ref, bind_some, bifF (by simp), bind_some, g1, bind_some, n1, bind_some]
    dsimp only
    rw [bifF (by rfl), bind_some, bind_some]
    dsimp only
    rw [v1', flow_go]
    dsimp only
    rw [flow_go]
    dsimp only
    have g3 : bitio_Reader_Left ⟨r.b, r.n, r.at_⟩ = _ := v2.left
    rw [g3, bind_some, lett_eq, Nat.sub_self]
    rfl
  · rw [bifT]
    rw [Bool.not_eq_true', Bool.and_eq_false_iff, Bool.and_eq_false_iff]
    rw [decide_eq_false_iff_not, decide_eq_false_iff_not]
    by_cases ht : t = true
    · by_cases h2 : (a1.Pos.Counts.length : Int) ≤ 300
      · exact .inr (.inr fun h3 => hc ⟨ht, h2, h3⟩)
      · exact .inr (.inl h2)
    · exact .inl (by simpa using ht)
end Go.Lg
