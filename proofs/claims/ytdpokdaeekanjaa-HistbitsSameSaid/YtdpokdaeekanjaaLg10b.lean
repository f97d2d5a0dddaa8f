/- Law 10: the check that its words are awake, and a histogram that comes again and again. -/
import Derived.Test.YtdpokdaeekanjaaLg10
set_option linter.unusedVariables false
namespace Go.Lg
attribute [local irreducible] w64 toU64 toU8 shlU shrU shlB shrB

theorem some10_loop (l : List api_Hist) (hl : l.length ≤ 1000000) : ∀ (m i : Nat), i + m = l.length → ∃ p, loop (law10_some_lp1 l) (i : Int) = some p ∧ (p = .go () → ∀ j (h : j < l.length), i ≤ j → l[j].Pos.Counts.length ≤ 170 ∧ l[j].Neg.Counts.length ≤ 170) ∧ (p = .go () ∨ p = .out false)
  | 0, i, h => by
    refine ⟨.go (), loop_brk ?_, (fun _ j hj hij => by omega), .inl rfl⟩
    unfold law10_some_lp1
    rw [bifFd (by omega)]
  | m + 1, i, h => by
    have hi : i < l.length := by omega
    obtain ⟨p, h1, h2, h3⟩ := some10_loop l hl m (i + 1) (by omega)
    by_cases hb : l[i].Pos.Counts.length ≤ 170 ∧ l[i].Neg.Counts.length ≤ 170
    · refine ⟨p, ?_, ?_, h3⟩
      · rw [loop_next (s' := ((i + 1 : Nat) : Int)), h1]
        unfold law10_some_lp1
        rw [bifTd (by omega), idx_nat hi, bind_some, bifFd (by omega), bind_some, bind_some, bifFd (by omega), lett_eq, w64_succ (by omega)]
      · intro hp j hj hij
        by_cases e : i = j
        · subst e; exact hb
        · exact h2 hp j hj (by omega)
    · refine ⟨.out false, loop_out (r := false) ?_, (fun hp => by cases hp), .inr rfl⟩
      unfold law10_some_lp1
      rw [bifTd (by omega), idx_nat hi, bind_some]
      by_cases h1 : l[i].Pos.Counts.length ≤ 170
      · rw [bifFd (by omega), bind_some, bind_some, bifTd (by omega)]; rfl
      · rw [bifTd (by omega), bind_some, cond_true]; rfl
theorem some10_eq (l : List api_Hist) : ∃ t, law10_some l = some t ∧ (t = true → l.length ≤ 30 ∧ ∀ h ∈ l, h.Pos.Counts.length ≤ 170 ∧ h.Neg.Counts.length ≤ 170) := by
  unfold law10_some
  by_cases h : 30 < (l.length : Int)
  · exact ⟨false, by rw [bifTd h], fun h => by cases h⟩
  · obtain ⟨p, h1, h2, h3⟩ := some10_loop l (by omega) l.length 0 (by omega)
    have h1' : loop (law10_some_lp1 l) 0 = _ := h1
    rw [bifFd h, h1']
    rcases h3 with rfl | rfl
    · refine ⟨true, by rw [flow_go], fun _ => ⟨by omega, fun x hx => ?_⟩⟩
      obtain ⟨j, hj, rfl⟩ := List.getElem_of_mem hx
      exact h2 rfl j hj (by omega)
    · exact ⟨false, by rw [flow_out], fun h => by cases h⟩

theorem H0ok : OkH H0 := ⟨by show I64 0; unfold I64; omega, by show I64 0; unfold I64; omega, by show I64 0; unfold I64; omega, by decide, by decide⟩
theorem histE_H0 : histE H0 = 0 := by decide +kernel
theorem awake10 : law10_awake = some true := by
  obtain ⟨x1, w1, p1, s1, r1⟩ := HS.new.put (by simp) H0ok histE_H0 WR.new (by simp)
  rw [List.nil_append] at s1 r1
  have l1 : (hiB [] H0).length = 24 := by decide +kernel
  obtain ⟨x2, w2, p2, s2, r2⟩ := s1.put (by simp) H0ok histE_H0 r1 (by rw [l1]; omega)
  have l2 : (hiB [] H0 ++ hiB [H0] H0).length = 27 := by decide +kernel
  have b2 : w2.b = [40, 0, 0, 128] := r2.is _ (by rw [l2]; rfl) (by decide +kernel)
  have g1 := r1.len
  rw [l1] at g1
  have g2 : bitio_Writer_Len ⟨w2.b, w2.n⟩ = _ := r2.len
  rw [l2] at g2
  have g3 := r2.bytes
  rw [b2] at g3
  have g3' : bitio_Writer_Bytes ⟨w2.b, w2.n⟩ = _ := g3
  have o99 : OkH ⟨99, 0, ⟨0, []⟩, ⟨0, []⟩⟩ := ⟨by show I64 99; unfold I64; omega, by show I64 0; unfold I64; omega, by show I64 0; unfold I64; omega, by decide, by decide⟩
  have e99 : histE ⟨99, 0, ⟨0, []⟩, ⟨0, []⟩⟩ = 1 := by decide +kernel
  have p3 := HS.putNo (x := x2) o99 (by rw [e99]; omega) w2
  rw [e99] at p3
  have g5 : histbits_Row_Len x2 = some 2 := by unfold histbits_Row_Len; rw [s2.n]; rfl
  unfold law10_awake
  have p1' : histbits_Row_Put ⟨0, H0⟩ ⟨[], 0⟩ ⟨0, 0, ⟨0, []⟩, ⟨0, []⟩⟩ = _ := p1
  have p2' : histbits_Row_Put x1 w1 ⟨0, 0, ⟨0, []⟩, ⟨0, []⟩⟩ = _ := p2
  have p3' : histbits_Row_Put ⟨x2.n, ⟨x2.last.Scale, x2.last.Zero, ⟨x2.last.Pos.Offset, x2.last.Pos.Counts⟩, ⟨x2.last.Neg.Offset, x2.last.Neg.Counts⟩⟩⟩ ⟨w2.b, w2.n⟩ ⟨99, 0, ⟨0, []⟩, ⟨0, []⟩⟩ = _ := p3
  have g5' : histbits_Row_Len ⟨x2.n, ⟨x2.last.Scale, x2.last.Zero, ⟨x2.last.Pos.Offset, x2.last.Pos.Counts⟩, ⟨x2.last.Neg.Offset, x2.last.Neg.Counts⟩⟩⟩ = _ := g5
  rw [show bitio_NewWriter = some ⟨[], 0⟩ from rfl, bind_some, show histbits_NewRow = some ⟨0, H0⟩ from rfl, bind_some, p1', bind_some]
  dsimp only
  rw [bifF (by rfl), g1, bind_some, bind_some, bifF (by rfl), p2', bind_some]
  dsimp only
  rw [bind_some]
  dsimp only
  rw [bifF (by rfl), g2, bind_some, bifTd (by rfl), g5', bind_some, bind_some, bifTd (by rfl), g3', bind_some, bind_some, bifTd (by rfl), p3', bind_some]
  dsimp only
  rw [bind_some]; rfl

theorem diffB_self : ∀ l : List UInt64, (diffB l l).length = 2 * l.length
  | [] => by simp [diffB]
  | a :: as => by
    unfold diffB
    have e : smallBits (zz (sg (a - a))) = [0, 0] := by rw [UInt64.sub_self]; decide +kernel
    rw [e, List.length_append, diffB_self as, List.length_cons]
    simp; omega
theorem hiB_again {row : List api_Hist} {h : api_Hist} (hr : 0 < row.length) (hl : lastH row = h) : (hiB row h).length = 1 + 2 * (1 + h.Pos.Counts.length + h.Neg.Counts.length) := by
  have hk : alk row h = true := by
    unfold alk alikeB
    rw [hl, decide_eq_true hr]; simp
  unfold hiB
  rw [if_pos hk, hl, List.length_cons, diffB_self, allC_len]; omega
theorem same_loop (h : api_Hist) (o : OkH h) (he : histE h = 0) (N : Nat) (hN : N ≤ 40) : ∀ (m i : Nat) (x : histbits_Row) (row : List api_Hist) (w : bitio_Writer) (L : List Int), i + m = N → 0 < i → HS x row → row.length = i → lastH row = h → WR w L → L.length ≤ 21500 * i →
    ∃ w' L', loop (law10_HistbitsSame_lp1 h (N : Int)) (w.b, w.n, x.n, x.last.Scale, x.last.Zero, x.last.Pos.Offset, x.last.Pos.Counts, x.last.Neg.Offset, x.last.Neg.Counts, (i : Int)) = some (.go (w'.b, w'.n)) ∧ WR w' L' ∧ L'.length = L.length + m * (1 + 2 * (1 + h.Pos.Counts.length + h.Neg.Counts.length))
  | 0, i, x, row, w, L, hi, h0, hx, hrow, hl, hw, hL => by
    refine ⟨w, L, loop_brk ?_, hw, by omega⟩
    unfold law10_HistbitsSame_lp1
    dsimp only
    rw [bifFd (by omega)]
  | m + 1, i, x, row, w, L, hi, h0, hx, hrow, hl, hw, hL => by
    obtain ⟨x1, w1, p1, s1, r1⟩ := hx.put (by omega) o he hw (by omega)
    have hb := hiB_again (row := row) (h := h) (by omega) hl
    have hle := hiB_len row (goodH_of o he)
    obtain ⟨w2, L2, q1, q2, q3⟩ := same_loop h o he N hN m (i + 1) x1 _ w1 _ (by omega) (by omega) s1 (by rw [List.length_append]; simp [hrow]) (lastH_snoc _ _) r1 (by rw [List.length_append]; omega)
    refine ⟨w2, L2, ?_, q2, ?_⟩
    · rw [← q1]
      refine loop_next ?_
      have p1' : histbits_Row_Put ⟨x.n, ⟨x.last.Scale, x.last.Zero, ⟨x.last.Pos.Offset, x.last.Pos.Counts⟩, ⟨x.last.Neg.Offset, x.last.Neg.Counts⟩⟩⟩ ⟨w.b, w.n⟩ h = _ := p1
      unfold law10_HistbitsSame_lp1
      dsimp only
      rw [bifTd (by omega), p1', bind_some]
      dsimp only
      rw [bifF (by rfl), lett_eq, w64_succ (by omega)]
    · rw [q3, List.length_append, hb, Nat.add_mul]; omega
theorem same_num {n p q L : Nat} (h1 : 1 ≤ n) (h2 : n ≤ 40) (hp : p ≤ 170) (hq : q ≤ 170) (hL : L ≤ 21500) :
    w64 (((L + (n - 1) * (1 + 2 * (1 + p + q)) : Nat) : Int) - (L : Int)) = w64 ((w64 ((n : Int) - 1)) * (w64 (1 + (w64 (2 * (w64 ((w64 (1 + (p : Int))) + (q : Int)))))))) := by
  rw [show w64 (1 + (p : Int)) = ((1 + p : Nat) : Int) from w64_addN (a := 1) (by omega)]
  rw [show w64 (((1 + p : Nat) : Int) + (q : Int)) = ((1 + p + q : Nat) : Int) from w64_addN (by omega)]
  rw [show w64 ((n : Int) - 1) = ((n - 1 : Nat) : Int) from w64_subN (b := 1) (by omega) (by omega)]
  have hk : 1 + p + q ≤ 341 := by omega
  have hm : n - 1 ≤ 40 := by omega
  clear h1 h2 hp hq
  generalize 1 + p + q = k at *
  generalize n - 1 = m at *
  rw [show w64 (2 * ((k : Nat) : Int)) = ((2 * k : Nat) : Int) by rw [w64_id] <;> omega]
  rw [show w64 (1 + ((2 * k : Nat) : Int)) = ((1 + 2 * k : Nat) : Int) from w64_addN (a := 1) (by omega)]
  have hb : m * (1 + 2 * k) ≤ 40 * 700 := Nat.mul_le_mul hm (by omega)
  rw [← Int.natCast_mul]
  generalize m * (1 + 2 * k) = M at *
  congr 1
  omega
theorem histbitsSame (h : api_Hist) (n : Int) (i : Is h) : law10_HistbitsSame h n = some true := by
  unfold law10_HistbitsSame
  rw [awake10, bind_some, bifF (by rfl)]
  obtain ⟨t, t1, t2⟩ := some10_eq [h]
  rw [t1, bind_some]
  by_cases hg : (t = false ∨ n < 1) ∨ 40 < n
  · rw [bifT (by simpa using hg)]
  have ht : t = true := by cases t <;> simp_all
  obtain ⟨_, t3⟩ := t2 ht
  obtain ⟨hp, hn⟩ := t3 h (by simp)
  have o : OkH h := i.ok (by omega) (by omega)
  rw [bifF (by simpa using hg), show bitio_NewWriter = some ⟨[], 0⟩ from rfl, bind_some, show histbits_NewRow = some ⟨0, H0⟩ from rfl, bind_some]
  by_cases he : histE h = 0
  · obtain ⟨x1, w1, p1, s1, r1⟩ := HS.new.put (by simp) o he WR.new (by simp)
    rw [List.nil_append] at s1 r1
    obtain ⟨N, rfl⟩ : ∃ N : Nat, n = (N : Int) := ⟨n.toNat, by omega⟩
    have hle := hiB_len [] (goodH_of o he)
    obtain ⟨w2, L2, q1, q2, q3⟩ := same_loop h o he N (by omega) (N - 1) 1 x1 [h] w1 _ (by omega) (by omega) s1 rfl (lastH_snoc [] h) r1 (by omega)
    have q1' : loop (law10_HistbitsSame_lp1 h (N : Int)) (w1.b, w1.n, x1.n, x1.last.Scale, x1.last.Zero, x1.last.Pos.Offset, x1.last.Pos.Counts, x1.last.Neg.Offset, x1.last.Neg.Counts, 1) = _ := q1
    have g1 := r1.len
    have g2 : bitio_Writer_Len ⟨w2.b, w2.n⟩ = _ := q2.len
    rw [p1, bind_some]
    dsimp only
    rw [bifF (by rfl), g1, bind_some, q1', flow_go]
    dsimp only
    rw [flow_go]
    dsimp only
    rw [g2, bind_some, lett_eq, q3]
    rw [same_num (by omega) (by omega) hp hn hle, decide_eq_true rfl]
  · have p1 := HS.putNo (x := ⟨0, H0⟩) o he ⟨[], 0⟩
    rw [p1, bind_some]
    dsimp only
    rw [bifT (by rw [decide_eq_false he]; rfl)]
    rfl
end Go.Lg
