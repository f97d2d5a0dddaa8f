/- Law 10: HistbitsTakes. -/
import Derived.Test.YtdpokdaeekanjaaTkLg10g
set_option linter.unusedVariables false
namespace Go.Lg
attribute [local irreducible] w64 toU64 toU8 shlU shrU shlB shrB
theorem takes10_loop (N : Nat) (hN : N ≤ 30) {A : List Int} (hA : A.length ≤ 1000) : ∀ (m i : Nat) (r : bitio_Reader) (p : Nat) (x y : histbits_Row) (w : bitio_Writer) (row : List api_Hist), i + m = N → row.length = i → RA r A p → HS x row → HS y row → WR w (A.take p) →
    ∃ (w' : bitio_Writer) (p' : Nat), loop (law10_HistbitsTakes_lp1 (N : Int)) (r.b, r.n, r.at_, A, x.n, x.last.Scale, x.last.Zero, x.last.Pos.Offset, x.last.Pos.Counts, x.last.Neg.Offset, x.last.Neg.Counts, y.n, y.last.Scale, y.last.Zero, y.last.Pos.Offset, y.last.Pos.Counts, y.last.Neg.Offset, y.last.Neg.Counts, w.b, w.n, row, (p : Int), (i : Int)) = some (.go (A, w'.b, w'.n, (p' : Int))) ∧ p' ≤ A.length ∧ WR w' (A.take p')
  | 0, i, r, p, x, y, w, row, hi, hrow, hr, hx, hy, hw => by
    refine ⟨w, p, loop_brk ?_, hr.le, hw⟩
    unfold law10_HistbitsTakes_lp1
    dsimp only
    rw [bifFd (by omega)]
  | m + 1, i, r, p, x, y, w, row, hi, hrow, hr, hx, hy, hw => by
    have hb := hr.bit.drop p
    have hs : (A.drop p).length ≤ 1000000 := by rw [List.length_drop]; omega
    have hle := hr.le
    obtain ⟨x', r', g1, g2, g3, g4⟩ := hx.get (by omega) hr
    have href := ref10Get_eq hx.good (by omega) hb hs
    have hgot := getH_got (row := row) hx.good hb
    have hle2 := g2.le
    have hat := g2.at'
    generalize getH row (A.drop p) = g at *
    have g1' : histbits_Row_Get ⟨x.n, ⟨x.last.Scale, x.last.Zero, ⟨x.last.Pos.Offset, x.last.Pos.Counts⟩, ⟨x.last.Neg.Offset, x.last.Neg.Counts⟩⟩⟩ ⟨r.b, r.n, r.at_⟩ = _ := g1
    have hsame : ref08_Same g.h g.h = some true := by
      by_cases he : g.e = 0
      · have o := (hgot he).2.2.1
        exact same_self o.pl o.nl
      · rw [(g4 he).2.2.1]; exact H0_same
    by_cases he : g.e = 0
    · obtain ⟨k1, k2, k3, k4⟩ := hgot he
      have hx' := g3 he
      obtain ⟨y', w', p1, p2, p3⟩ := hy.put (by omega) k3 k4 hw (by rw [List.length_take]; omega)
      have p1' : histbits_Row_Put ⟨y.n, ⟨y.last.Scale, y.last.Zero, ⟨y.last.Pos.Offset, y.last.Pos.Counts⟩, ⟨y.last.Neg.Offset, y.last.Neg.Counts⟩⟩⟩ ⟨w.b, w.n⟩ g.h = _ := p1
      rw [← k2, ← List.take_add] at p3
      obtain ⟨w2, p', q1, q2, q3⟩ := takes10_loop N hN hA m (i + 1) r' (p + g.n) x' y' w' (row ++ [g.h]) (by omega) (by rw [List.length_append, hrow]; rfl) g2 hx' p2 p3
      refine ⟨w2, p', ?_, q2, q3⟩
      rw [← q1]
      refine loop_next ?_
      unfold law10_HistbitsTakes_lp1
      dsimp only
      rw [bifTd (by omega), slc_rest hr.le, bind_some, href, bind_some, g1', bind_some]
      dsimp only
      rw [bifF (by simp), hsame, bind_some, bind_some, bifF (by rfl), hat, bind_some, w64_addN (by omega), bind_some, bifF (by simp), bifF (by rw [he]; rfl), lett_eq, app_ok (by simp; omega), bind_some, p1', bind_some]
      dsimp only
      rw [bifF (by rfl), lett_eq, w64_succ (by omega)]
    · obtain ⟨e1, e2, e3, e4⟩ := g4 he
      subst e1; subst e2
      refine ⟨w, p, loop_brk ?_, hr.le, hw⟩
      have hlen : histbits_Row_Len x' = some (row.length : Int) := by unfold histbits_Row_Len; rw [hx.n]
      unfold law10_HistbitsTakes_lp1
      dsimp only
      rw [bifTd (by omega), slc_rest hr.le, bind_some, href, bind_some, g1', bind_some]
      dsimp only
      rw [bifF (by simp), hsame, bind_some, bind_some, bifF (by rfl), hat, bind_some, w64_addN (by omega), bind_some, bifF (by simp), bifT (by rw [decide_eq_false he]; rfl), g1, bind_some]
      dsimp only
      rw [bifF (by simp), hlen, bind_some, bind_some, bifF (by simp)]
theorem histbitsTakes (a0 : List UInt8) (a1 : Int) : law10_HistbitsTakes a0 a1 = some true := by
  unfold law10_HistbitsTakes
  rw [awake10, bind_some, bifF (by rfl)]
  by_cases h : (120 < (a0.length : Int) ∨ a1 < 0) ∨ 30 < a1
  · rw [bifT (by simpa using h)]
  obtain ⟨n1, n2⟩ := RA.whole (b := a0) (by omega)
  have e8 : w64 (8 * (a0.length : Int)) = ((8 * a0.length : Nat) : Int) := by rw [w64_8 (by omega)]; simp
  obtain ⟨N, rfl⟩ : ∃ N : Nat, a1 = (N : Int) := ⟨a1.toNat, by omega⟩
  have hbl := bitsOf_len a0
  obtain ⟨w, p, t1, t2, t3⟩ := takes10_loop N (by omega) (A := bitsOf a0) (by omega) N 0 _ 0 ⟨0, H0⟩ ⟨0, H0⟩ ⟨[], 0⟩ [] (by omega) rfl n2 HS.new HS.new (by rw [List.take_zero]; exact WR.new)
  have t1' : loop (law10_HistbitsTakes_lp1 (N : Int)) (a0, ((8 * a0.length : Nat) : Int), 0, bitsOf a0, 0, H0.Scale, H0.Zero, H0.Pos.Offset, H0.Pos.Counts, H0.Neg.Offset, H0.Neg.Counts, 0, H0.Scale, H0.Zero, H0.Pos.Offset, H0.Pos.Counts, H0.Neg.Offset, H0.Neg.Counts, [], 0, [], 0, 0) = _ := t1
  rw [bifF (by simpa using h), e8, n1, bind_some]
  dsimp only
  rw [bifF (by rfl), bits_eq (by omega), bind_some, show histbits_NewRow = some ⟨0, H0⟩ from rfl, bind_some, bind_some, show bitio_NewWriter = some ⟨[], 0⟩ from rfl, bind_some, bind_some]
  dsimp only
  rw [t1', flow_go]
  dsimp only
  rw [flow_go]
  dsimp only
  have hlen : ((bitsOf a0).take p).length = p := by rw [List.length_take]; omega
  have g1 : bitio_Writer_Len ⟨w.b, w.n⟩ = _ := t3.len
  have g2 : bitio_Writer_Bytes ⟨w.b, w.n⟩ = _ := t3.bytes
  have g3 := t3.ref
  have hsl : slc (bitsOf a0) 0 (p : Int) = some ((bitsOf a0).take p) := by
    rw [show (0 : Int) = ((0 : Nat) : Int) from rfl, slc_nat (by omega) t2, List.drop_zero]
  rw [g1, bind_some, hlen, bifTd rfl, hsl, bind_some, g2, bind_some, g3, bind_some, bind_some, decide_eq_true rfl]
end Go.Lg
